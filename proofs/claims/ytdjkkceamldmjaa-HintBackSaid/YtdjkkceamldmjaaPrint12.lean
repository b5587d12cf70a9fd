/- Written by a program of mine (give.py, over the kit's print) out of the translation: contracts of the Go functions. Lean checks it. -/
import Derived.Test.YtdjkkceamldmjaaPrint0
import Derived.Test.YtdjkkceamldmjaaPrint10
import Derived.Test.YtdjkkceamldmjaaPrint11
namespace Go.Proofs.Ytdjkkceamldmjaa.Print
open Go.RowKit Go.Proofs.YtdjkkceamldmjaaW.PrintWords Go.Proofs.YtdjkkceamldmjaaW.PrintLast Go.Proofs.YtdjkkceamldmjaaW.PrintMore
attribute [local go_sem] max2_int min2_int max_two min_two max_three min_three max_four min_four   -- for this text's walks alone
set_option linter.unusedVariables false
set_option linter.unusedSimpArgs false

/-! ### thwartref02_Open: function 35 -/
def thwartref02_Open.f (k : Nat) (a0 : ByteArray) : Option (ByteArray × Bool):=if (a0.size : Int) < 4 then (some ((⟨#[]⟩ : ByteArray),false)) else (if 4 ≤ (a0.size : Int) then ((thwartref02_Seal.f k (a0.extract 4 a0.size)).bind fun t241 => (if t241.toList = a0.toList then (some (a0.extract 4 a0.size,true)) else (some ((⟨#[]⟩ : ByteArray),false)))) else (none))
theorem thwartref02_Open.mono : ∀ a0 k,LeO (thwartref02_Open.f k a0) (thwartref02_Open.f (k + 1) a0):=by
 intro a0 k
 unfold thwartref02_Open.f
 repeat' first
   | (with_reducible exact thwartref02_Seal.mono _ _)
   | (with_reducible exact LeO.refl _)
   | (with_reducible exact LeO.none _)
   | (with_reducible refine LeO.ite ?_ ?_)
   | (with_reducible refine LeO.bind ?_ (fun _ => ?_))
   | exact thwartref02_Seal.mono _ _
   | exact LeO.none _
   | refine LeO.ite ?_ ?_
   | refine LeO.bind ?_ (fun _ => ?_)
set_option maxHeartbeats 8000000 in
set_option maxRecDepth 100000 in
theorem thwartref02_Open.calls (k : Nat) (a0 : ByteArray) (r1 : ByteArray) (r2 : Bool) (w : World) (h : thwartref02_Open.f k a0 = some (r1,r2)) :
  Calls Try.prog 35 #[.string a0] w fun e w' => e = .returned (.tuple #[.string r1,.bool r2]) ∧ Below w.heap.size w w' := by
 have HB:=Aside0.mk (Below.refl w.heap.size w)
 have H : (if (a0.size : Int) < 4 then (some ((⟨#[]⟩ : ByteArray),false)) else (if 4 ≤ (a0.size : Int) then ((thwartref02_Seal.f k (a0.extract 4 a0.size)).bind fun t241 => (if t241.toList = a0.toList then (some (a0.extract 4 a0.size,true)) else (some ((⟨#[]⟩ : ByteArray),false)))) else (none))) = some (r1,r2):=h
 clear h
 by_cases c2 : (a0.size : Int) < 4
 ·rw [if_pos c2] at H
  have c2b0 : decide ((a0.size : Int) < 4) = true:=decide_eq_true c2
  have c2b1 : decide (a0.size < 4) = true:=decide_eq_true (by omega)
  clear c2
  simp only [Option.some.injEq,Prod.mk.injEq] at H
  obtain ⟨rfl,rfl⟩:=H
  go_enter Try.func35,Try.ntmps35
  go_wp2
  go_ret2
  exact ⟨by first | rfl | (simp [errW_none,errW_some] <;> rfl) | (simp [*,errW_none,errW_some] <;> rfl) | (simp [errW_none,errW_some];exact isEmpty_bne _),by repeat (first | (with_reducible first | exact HB.out | apply below_alloc | apply pw_below_drewN | apply below_drew1) | exact HB.out)⟩
 ·rw [if_neg c2] at H
  have c2b0 : decide ((a0.size : Int) < 4) = false:=decide_eq_false c2
  have c2b1 : decide (a0.size < 4) = false:=decide_eq_false (by omega)
  clear c2
  by_cases c3 : 4 ≤ (a0.size : Int)
  ·rw [if_pos c3] at H
   have c3b0:=eq_true c3
   have c3b1 : decide (4 ≤ (a0.size : Int)) = true:=decide_eq_true c3
   clear c3
   replace H:=Option.bind_eq_some_iff.mp H
   obtain ⟨t241,A40,H⟩:=H
   replace H : (if t241.toList = a0.toList then (some (a0.extract 4 a0.size,true)) else (some ((⟨#[]⟩ : ByteArray),false))) = some (r1,r2):=H
   have A4:=Aside0.mk A40
   clear A40
   by_cases c5 : t241.toList = a0.toList
   ·rw [if_pos c5] at H
    have c5b0 : (t241.toList == a0.toList) = true:=beq_iff_eq.mpr c5
    have c5b1 : (t241.toList != a0.toList) = false:=bne_eq_false_iff_eq.mpr c5
    clear c5
    have c6b0:=eq_true (of_decide_eq_true (by first | (with_reducible assumption) | assumption) : 4 ≤ (a0.size : Int))
    simp only [Option.some.injEq,Prod.mk.injEq] at H
    obtain ⟨rfl,rfl⟩:=H
    go_enter Try.func35,Try.ntmps35
    go_wp2_with (first | (go_at_call 30;(with_reducible refine (thwartref02_Seal.calls k (a0.extract 4 a0.size) t241 _ A4.out).mono ?_);rintro e w7 ⟨rfl,hb⟩;have n0_:=Aside0.mk (below_step (by repeat (first | (with_reducible first | exact HB.out | apply below_alloc | apply pw_below_drewN | apply below_drew1) | exact HB.out)) hb);clear HB;have HB:=n0_;clear n0_;(try clear hb);(try clear hb2);(try clear hk);(try clear hi)))
    go_ret2
    exact ⟨by first | rfl | (simp [errW_none,errW_some] <;> rfl) | (simp [*,errW_none,errW_some] <;> rfl) | (simp [errW_none,errW_some];exact isEmpty_bne _),by repeat (first | (with_reducible first | exact HB.out | apply below_alloc | apply pw_below_drewN | apply below_drew1) | exact HB.out)⟩
   ·rw [if_neg c5] at H
    have c5b0 : (t241.toList == a0.toList) = false:=beq_eq_false_iff_ne.mpr c5
    have c5b1 : (t241.toList != a0.toList) = true:=bne_iff_ne.mpr c5
    simp only [Option.some.injEq,Prod.mk.injEq] at H
    obtain ⟨rfl,rfl⟩:=H
    go_enter Try.func35,Try.ntmps35
    go_wp2_with (first | (go_at_call 30;(with_reducible refine (thwartref02_Seal.calls k (a0.extract 4 a0.size) t241 _ A4.out).mono ?_);rintro e w8 ⟨rfl,hb⟩;have n0_:=Aside0.mk (below_step (by repeat (first | (with_reducible first | exact HB.out | apply below_alloc | apply pw_below_drewN | apply below_drew1) | exact HB.out)) hb);clear HB;have HB:=n0_;clear n0_;(try clear hb);(try clear hb2);(try clear hk);(try clear hi)))
    go_ret2
    exact ⟨by first | rfl | (simp [errW_none,errW_some] <;> rfl) | (simp [*,errW_none,errW_some] <;> rfl) | (simp [errW_none,errW_some];exact isEmpty_bne _),by repeat (first | (with_reducible first | exact HB.out | apply below_alloc | apply pw_below_drewN | apply below_drew1) | exact HB.out)⟩
  ·rw [if_neg c3] at H
   exact absurd H (by simp)

/-! ### thwartref01_Take: function 36 -/
def thwartref01_Take.l0 : Nat → ByteArray → Int → Int → Int → Option (Int × ByteArray × Int)
 | 0,_,_,_,_ => none
 | k + 1,x0,x5,x6,x7 => if x7 < 10 then (if x7 = (x0.size : Int) then (some (0,(⟨#[]⟩ : ByteArray),3)) else (if 0 ≤ x7 then (if x7 < (x0.size : Int) then (if (bt x0 x7) < 128 then ((thwartref01_Put.f k (IntKind.u64.wrap (x5 + (IntKind.u64.wrap (x6 * (IntKind.u64.wrap (Int.tmod (bt x0 x7) 128))))))).bind fun t242 => (if 0 ≤ (wrap64 (x7 + 1)) then (if (wrap64 (x7 + 1)) ≤ (x0.size : Int) then (if t242.toList = (x0.extract 0 ((wrap64 (x7 + 1)) : Int).toNat).toList then (some (IntKind.u64.wrap (x5 + (IntKind.u64.wrap (x6 * (IntKind.u64.wrap (Int.tmod (bt x0 x7) 128))))),x0.extract ((wrap64 (x7 + 1)) : Int).toNat x0.size,0)) else (some (0,(⟨#[]⟩ : ByteArray),2))) else (none)) else (none))) else (thwartref01_Take.l0 k x0 (IntKind.u64.wrap (x5 + (IntKind.u64.wrap (x6 * (IntKind.u64.wrap (Int.tmod (bt x0 x7) 128)))))) (IntKind.u64.wrap (x6 * 128)) (wrap64 (x7 + 1)))) else (none)) else (none))) else (some (0,(⟨#[]⟩ : ByteArray),2))
def thwartref01_Take.f (k : Nat) (a0 : ByteArray) : Option (Int × ByteArray × Int):=thwartref01_Take.l0 k a0 0 1 0
theorem thwartref01_Take.mono_l : ∀ k,(∀ y0 y1 y2 y3,LeO (thwartref01_Take.l0 k y0 y1 y2 y3) (thwartref01_Take.l0 (k + 1) y0 y1 y2 y3))
 | 0 => fun _ _ _ _ r h => by simp [thwartref01_Take.l0] at h
 | k + 1 => by
  have ih0:=thwartref01_Take.mono_l k
  ·intro y0 y1 y2 y3
   unfold thwartref01_Take.l0
   repeat' first
   | (with_reducible exact ih0 _ _ _ _)
   | (with_reducible exact thwartref01_Put.mono _ _)
   | (with_reducible exact LeO.refl _)
   | (with_reducible exact LeO.none _)
   | (with_reducible refine LeO.ite ?_ ?_)
   | (with_reducible refine LeO.bind ?_ (fun _ => ?_))
   | exact ih0 _ _ _ _
   | exact thwartref01_Put.mono _ _
   | exact LeO.none _
   | refine LeO.ite ?_ ?_
   | refine LeO.bind ?_ (fun _ => ?_)
theorem thwartref01_Take.mono : ∀ a0 k,LeO (thwartref01_Take.f k a0) (thwartref01_Take.f (k + 1) a0):=by
 intro a0 k
 have ih0:=thwartref01_Take.mono_l k
 unfold thwartref01_Take.f
 repeat' first
   | (with_reducible exact ih0 _ _ _ _)
   | (with_reducible exact thwartref01_Put.mono _ _)
   | (with_reducible exact LeO.refl _)
   | (with_reducible exact LeO.none _)
   | (with_reducible refine LeO.ite ?_ ?_)
   | (with_reducible refine LeO.bind ?_ (fun _ => ?_))
   | exact ih0 _ _ _ _
   | exact thwartref01_Put.mono _ _
   | exact LeO.none _
   | refine LeO.ite ?_ ?_
   | refine LeO.bind ?_ (fun _ => ?_)
def thwartref01_Take.T13 : Bool × List (List Nat × List Nat):=(true,[([],[]),([],[]),([],[]),([2],[2]),([1,3],[1,3]),([0,0],[0]),([4,5,0,1,2,3,4,5],[4]),([6,0,1,2,3,4,5,6],[])])
def thwartref01_Take.B13 : List Nat:=[0,0,0,4,14,1,63,127]
theorem thwartref01_Take.tab13 : rtab .any (opsOf Try.f36 13) = thwartref01_Take.T13:=by kernel_rfl
theorem thwartref01_Take.bits13 : waitsOk thwartref01_Take.T13.2 thwartref01_Take.B13 = true:=by kernel_rfl
set_option maxHeartbeats 8000000 in
set_option maxRecDepth 100000 in
theorem thwartref01_Take.calls (k : Nat) (a0 : ByteArray) (r1 : Int) (r2 : ByteArray) (r3 : Int) (w : World) (h : thwartref01_Take.f k a0 = some (r1,r2,r3)) :
  Calls Try.prog 36 #[.string a0] w fun e w' => e = .returned (.tuple #[.int .u64 r1,.string r2,.int .i64 r3]) ∧ Below w.heap.size w w' := by
 have HB:=Aside0.mk (Below.refl w.heap.size w)
 have H : (thwartref01_Take.l0 k a0 0 1 0) = some (r1,r2,r3):=h
 clear h
 have H' := Aside0.mk H
 clear H
 go_enter Try.func36,Try.ntmps36
 go_wp2
 go_loopg [5,6,7] k (fun kq v5 v6 v7 w' => ∃ (x5_1 : Int) (x6_1 : Int) (x7_1 : Int),v5 = .int .u64 x5_1 ∧ v6 = .int .u64 x6_1 ∧ v7 = .int .i64 x7_1 ∧ Aside0 (thwartref01_Take.l0 kq a0 x5_1 x6_1 x7_1 = some (r1,r2,r3)) ∧ Aside0 (kq ≤ k) ∧ Aside0 (Below w.heap.size w w'))
 case atStart => exact ⟨(0),(1),(0),(by first | rfl | (simp;done) | (simp [*];done)),(by first | rfl | (simp;done) | (simp [*];done)),(by first | rfl | (simp;done) | (simp [*];done)),H',⟨Nat.le_refl _⟩,⟨by repeat (first | (with_reducible first | exact HB.out | apply below_alloc | apply pw_below_drewN | apply below_drew1) | exact HB.out)⟩⟩
 case round =>
  clear H'
  obtain ⟨x5_1,x6_1,x7_1,rfl,rfl,rfl,HA,HK1,HB⟩:=hrel
  cases gk with
  | zero => exact absurd HA.out (by simp [thwartref01_Take.l0])
  | succ k1 =>
   have H:=HA.out
   clear HA
   simp only [thwartref01_Take.l0] at H
   by_cases c2 : x7_1 < 10
   ·rw [if_pos c2] at H
    have c2b0 : decide (x7_1 < 10) = true:=decide_eq_true c2
    clear c2
    by_cases c3 : x7_1 = (a0.size : Int)
    ·rw [if_pos c3] at H
     have c3b0 : (x7_1 == (a0.size : Int)) = true:=beq_iff_eq.mpr c3
     have c3b1 : (x7_1 != (a0.size : Int)) = false:=bne_eq_false_iff_eq.mpr c3
     clear c3
     simp only [Option.some.injEq,Prod.mk.injEq] at H
     obtain ⟨rfl,rfl,rfl⟩:=H
     go_wp2
     go_ret3
     exact ⟨by first | rfl | (simp [errW_none,errW_some] <;> rfl) | (simp [*,errW_none,errW_some] <;> rfl) | (simp [errW_none,errW_some];exact isEmpty_bne _),by repeat (first | (with_reducible first | exact HB.out | apply below_alloc | apply pw_below_drewN | apply below_drew1) | exact HB.out)⟩
    ·rw [if_neg c3] at H
     have c3b0 : (x7_1 == (a0.size : Int)) = false:=beq_eq_false_iff_ne.mpr c3
     have c3b1 : (x7_1 != (a0.size : Int)) = true:=bne_iff_ne.mpr c3
     by_cases c4 : 0 ≤ x7_1
     ·rw [if_pos c4] at H
      have c4b0 : decide (0 ≤ x7_1) = true:=decide_eq_true c4
      clear c4
      by_cases c5 : x7_1 < (a0.size : Int)
      ·rw [if_pos c5] at H
       have c5b0 : decide (x7_1 < (a0.size : Int)) = true:=decide_eq_true c5
       clear c5
       by_cases c8 : (bt a0 x7_1) < 128
       ·rw [if_pos c8] at H
        have c8b0 : decide ((bt a0 x7_1) < 128) = true:=decide_eq_true c8
        clear c8
        replace H:=Option.bind_eq_some_iff.mp H
        obtain ⟨t242,A90,H⟩:=H
        replace H : (if 0 ≤ (wrap64 (x7_1 + 1)) then (if (wrap64 (x7_1 + 1)) ≤ (a0.size : Int) then (if t242.toList = (a0.extract 0 ((wrap64 (x7_1 + 1)) : Int).toNat).toList then (some (IntKind.u64.wrap (x5_1 + (IntKind.u64.wrap (x6_1 * (IntKind.u64.wrap (Int.tmod (bt a0 x7_1) 128))))),a0.extract ((wrap64 (x7_1 + 1)) : Int).toNat a0.size,0)) else (some (0,(⟨#[]⟩ : ByteArray),2))) else (none)) else (none)) = some (r1,r2,r3):=H
        have A9:=Aside0.mk A90
        clear A90
        obtain ⟨ji10,hji10⟩ : ∃ j_ : Int,(wrap64 (x7_1 + 1)) = j_:=⟨_,rfl⟩
        replace H : (if 0 ≤ (ji10) then (if (ji10) ≤ (a0.size : Int) then (if t242.toList = (a0.extract 0 ((ji10) : Int).toNat).toList then (some (IntKind.u64.wrap (x5_1 + (IntKind.u64.wrap (x6_1 * (IntKind.u64.wrap (Int.tmod (bt a0 x7_1) 128))))),a0.extract ((ji10) : Int).toNat a0.size,0)) else (some (0,(⟨#[]⟩ : ByteArray),2))) else (none)) else (none)) = some (r1,r2,r3):=by first | (rw [hji10] at H;exact H) | (simp only [hji10] at H ⊢;exact H)
        (try rw [hji10] at A9)
        have hji10w : (IntKind.i64.wrap (x7_1 + 1)) = ji10:=(i64_w _).trans hji10
        by_cases c11 : 0 ≤ (ji10)
        ·rw [if_pos c11] at H
         have c11b0:=eq_true c11
         have c11b1 : decide (0 ≤ (ji10)) = true:=decide_eq_true c11
         clear c11
         by_cases c12 : (ji10) ≤ (a0.size : Int)
         ·rw [if_pos c12] at H
          have c12b0:=eq_true c12
          have c12b1 : decide ((ji10) ≤ (a0.size : Int)) = true:=decide_eq_true c12
          clear c12
          by_cases c13 : t242.toList = (a0.extract 0 ((ji10) : Int).toNat).toList
          ·rw [if_pos c13] at H
           have c13b0 : (t242.toList == (a0.extract 0 ((ji10) : Int).toNat).toList) = true:=beq_iff_eq.mpr c13
           have c13b1 : (t242.toList != (a0.extract 0 ((ji10) : Int).toNat).toList) = false:=bne_eq_false_iff_eq.mpr c13
           clear c13
           have c14b0:=eq_true (of_decide_eq_true (by first | (with_reducible assumption) | assumption) : 0 ≤ (ji10))
           have c15b0:=eq_true (of_decide_eq_true (by first | (with_reducible assumption) | assumption) : (ji10) ≤ (a0.size : Int))
           simp only [Option.some.injEq,Prod.mk.injEq] at H
           obtain ⟨rfl,rfl,rfl⟩:=H
           have p6 : 0 ≤ (x7_1 : Int):=of_decide_eq_true (by first | (with_reducible assumption) | assumption)
           have q6 : x7_1 < (a0.size : Int):=of_decide_eq_true (by first | (with_reducible assumption) | assumption)
           have hx6:=bt_at a0 x7_1
           replace p6:=eq_true p6
           replace q6:=eq_true q6
           have p7 : 0 ≤ (x7_1 : Int):=of_decide_eq_true (by first | (with_reducible assumption) | assumption)
           have q7 : x7_1 < (a0.size : Int):=of_decide_eq_true (by first | (with_reducible assumption) | assumption)
           have hx7:=bt_at a0 x7_1
           replace p7:=eq_true p7
           replace q7:=eq_true q7
           try go_wp2
           have n0_:=Aside0.mk (below_drew1 HB.out)
           clear HB
           have HB:=n0_
           clear n0_
           refine start_ (n:=7) (S:=fun w' => True) (ds:=[]) #[false,false,false,false,false,false,false] (by kernel_rfl) rfl rfl trivial (fun hHeld => ?_)
           generalize wr.drew = w16 at HB hHeld ⊢
           refine pure_ (i:=0) (N:=some 31) (v := ?_) (a' := ?_) #[true,false,false,false,false,false,false] rfl rfl (by kernel_rfl) (fun _ _ _ h => h) (Or.inl ⟨by rfl,?_⟩) ?_ ?_
           rotate_left
           ·intro w'
            go_simp
            with_reducible rfl
           rotate_left
           ·simp only [Act.put,List.setIfInBounds_toArray,List.set_cons_zero,List.set_cons_succ,i64_w,i32_w]
            rfl
           refine pure_ (i:=2) (N:=some 33) (v := ?_) (a' := ?_) #[true,false,true,false,false,false,false] rfl rfl (by kernel_rfl) (fun _ _ _ h => h) (Or.inl ⟨by rfl,?_⟩) ?_ ?_
           rotate_left
           ·intro w'
            go_simp
            with_reducible rfl
           rotate_left
           ·simp only [Act.put,List.setIfInBounds_toArray,List.set_cons_zero,List.set_cons_succ,i64_w,i32_w]
            rfl
           refine pure_ (i:=3) (N:=some 34) (v := ?_) (a' := ?_) #[true,false,true,true,false,false,false] rfl rfl (by kernel_rfl) (fun _ _ _ h => h) (Or.inl ⟨by rfl,?_⟩) ?_ ?_
           rotate_left
           ·intro w'
            go_simp
            with_reducible rfl
           rotate_left
           ·simp only [Act.put,List.setIfInBounds_toArray,List.set_cons_zero,List.set_cons_succ,i64_w,i32_w]
            rfl
           refine pure_ (i:=4) (N:=some 35) (v := ?_) (a' := ?_) #[true,false,true,true,true,false,false] rfl rfl (by kernel_rfl) (fun _ _ _ h => h) (Or.inl ⟨by rfl,?_⟩) ?_ ?_
           rotate_left
           ·intro w'
            go_simp
            with_reducible rfl
           rotate_left
           ·simp only [Act.put,List.setIfInBounds_toArray,List.set_cons_zero,List.set_cons_succ,i64_w,i32_w]
            rfl
           refine pure_ (i:=5) (N:=some 36) (v := ?_) (a' := ?_) #[true,false,true,true,true,true,false] rfl rfl (by kernel_rfl) (fun _ _ _ h => h) (Or.inl ⟨by rfl,?_⟩) ?_ ?_
           rotate_left
           ·intro w'
            go_simp
            with_reducible rfl
           rotate_left
           ·simp only [Act.put,List.setIfInBounds_toArray,List.set_cons_zero,List.set_cons_succ,i64_w,i32_w]
            rfl
           refine one_ (i:=1) (N:=some 32) #[true,true,true,true,true,true,false] rfl rfl (by kernel_rfl) (by decide) (fun K hK => ?_)
           refine goes_ Try.func27 (by kernel_rfl) rfl #[.int .u64 (IntKind.u64.wrap (x5_1 + (IntKind.u64.wrap (x6_1 * (IntKind.u64.wrap (Int.tmod (bt a0 x7_1) 128))))))] (by rfl) rfl rfl (by (try simp only [List.map_toArray,List.map_cons,List.map_nil]);first | done | rfl | (simp only [List.length_drop,List.length_take];rfl)) ?_
           with_reducible refine (thwartref01_Put.calls k1 (IntKind.u64.wrap (x5_1 + (IntKind.u64.wrap (x6_1 * (IntKind.u64.wrap (Int.tmod (bt a0 x7_1) 128)))))) t242 _ A9.out).mono ?_
           rintro e w17 ⟨rfl,hb⟩
           refine ⟨_,rfl,?_⟩
           have n0_:=Aside0.mk (below_step (by repeat (first | (with_reducible first | exact HB.out | apply below_alloc | apply pw_below_drewN | apply below_drew1) | exact HB.out)) hb)
           clear HB
           have HB:=n0_
           clear n0_
           (try clear hb)
           (try clear hb2)
           (try clear hk)
           (try clear hi)
           refine hK.out _ _ trivial (fun hHeld => ?_)
           clear hK K
           refine norm_ (a' := ?_) ?_ ?_
           rotate_left
           ·show Act.put _ (some 32) _ = _
            simp only [Act.put,List.setIfInBounds_toArray,List.set_cons_zero,List.set_cons_succ,i64_w,i32_w]
            rfl
           refine pure_ (i:=6) (N:=some 37) (v := ?_) (a' := ?_) #[true,true,true,true,true,true,true] rfl rfl (by kernel_rfl) (fun _ _ _ h => h) (Or.inl ⟨by rfl,?_⟩) ?_ ?_
           rotate_left
           ·intro w'
            go_simp
            with_reducible rfl
           rotate_left
           ·simp only [Act.put,List.setIfInBounds_toArray,List.set_cons_zero,List.set_cons_succ,i64_w,i32_w]
            rfl
           refine done_ (by kernel_rfl) ?_
           try go_wp2
           have n0_:=Aside0.mk (below_drew1 HB.out)
           clear HB
           have HB:=n0_
           clear n0_
           refine start_ (n:=8) (S:=fun w' => True) (ds:=[]) #[false,false,false,false,false,false,false,false] (by kernel_rfl) rfl rfl trivial (fun hHeld => ?_);refine with_tabW thwartref01_Take.tab13 thwartref01_Take.bits13 (fun HT_ HW_ => ?_)
           generalize w17.drew = w18 at HB hHeld ⊢
           refine pure_ (i:=0) (N:=some 38) (v := ?_) (a' := ?_) #[true,false,false,false,false,false,false,false] rfl rfl (any_of HT_.out (by kernel_rfl)) (fun _ _ _ h => h) (Or.inl ⟨by rfl,?_⟩) ?_ ?_
           rotate_left
           ·intro w'
            go_simp
            with_reducible rfl
           rotate_left
           ·simp only [Act.put,List.setIfInBounds_toArray,List.set_cons_zero,List.set_cons_succ,i64_w,i32_w]
            rfl
           refine pure_ (i:=1) (N:=some 39) (v := ?_) (a' := ?_) #[true,true,false,false,false,false,false,false] rfl rfl (any_of HT_.out (by kernel_rfl)) (fun _ _ _ h => h) (Or.inl ⟨by rfl,?_⟩) ?_ ?_
           rotate_left
           ·intro w'
            go_simp
            with_reducible rfl
           rotate_left
           ·simp only [Act.put,List.setIfInBounds_toArray,List.set_cons_zero,List.set_cons_succ,i64_w,i32_w]
            rfl
           refine pure_ (i:=2) (N:=some 40) (v := ?_) (a' := ?_) #[true,true,true,false,false,false,false,false] rfl rfl (any_of HT_.out (by kernel_rfl)) (fun _ _ _ h => h) (Or.inl ⟨by rfl,?_⟩) ?_ ?_
           rotate_left
           ·intro w'
            go_simp
            with_reducible rfl
           rotate_left
           ·simp only [Act.put,List.setIfInBounds_toArray,List.set_cons_zero,List.set_cons_succ,i64_w,i32_w]
            rfl
           refine pure_ (i:=3) (N:=some 41) (v := ?_) (a' := ?_) #[true,true,true,true,false,false,false,false] rfl rfl (any_of HT_.out (by kernel_rfl)) (fun _ _ _ h => h) (Or.inl ⟨by rfl,?_⟩) ?_ ?_
           rotate_left
           ·intro w'
            go_simp
            with_reducible rfl
           rotate_left
           ·simp only [Act.put,List.setIfInBounds_toArray,List.set_cons_zero,List.set_cons_succ,i64_w,i32_w]
            rfl
           refine pure_ (i:=4) (N:=some 42) (v := ?_) (a' := ?_) #[true,true,true,true,true,false,false,false] rfl rfl (any_of HT_.out (by kernel_rfl)) (fun _ _ _ h => h) (Or.inl ⟨by rfl,?_⟩) ?_ ?_
           rotate_left
           ·intro w'
            go_simp
            with_reducible rfl
           rotate_left
           ·simp only [Act.put,List.setIfInBounds_toArray,List.set_cons_zero,List.set_cons_succ,i64_w,i32_w]
            rfl
           refine pure_ (i:=5) (N:=some 2) (v := ?_) (a' := ?_) #[true,true,true,true,true,true,false,false] rfl rfl (any_of HT_.out (by kernel_rfl)) (fun _ _ _ h => h) (Or.inl ⟨by rfl,?_⟩) ?_ ?_
           rotate_left
           ·intro w'
            go_simp
            with_reducible rfl
           rotate_left
           ·simp only [Act.put,List.setIfInBounds_toArray,List.set_cons_zero,List.set_cons_succ,i64_w,i32_w]
            rfl
           refine pure_ (i:=6) (N:=some 3) (v := ?_) (a' := ?_) #[true,true,true,true,true,true,true,false] rfl rfl (any_of HT_.out (by kernel_rfl)) (fun _ _ _ h => h) (Or.inl ⟨by rfl,?_⟩) ?_ ?_
           rotate_left
           ·intro w'
            go_simp
            with_reducible rfl
           rotate_left
           ·simp only [Act.put,List.setIfInBounds_toArray,List.set_cons_zero,List.set_cons_succ,i64_w,i32_w]
            rfl
           refine pure_ (i:=7) (N:=some 4) (v := ?_) (a' := ?_) #[true,true,true,true,true,true,true,true] rfl rfl (any_of HT_.out (by kernel_rfl)) (fun _ _ _ h => h) (Or.inl ⟨by rfl,?_⟩) ?_ ?_
           rotate_left
           ·intro w'
            go_simp
            with_reducible rfl
           rotate_left
           ·simp only [Act.put,List.setIfInBounds_toArray,List.set_cons_zero,List.set_cons_succ,i64_w,i32_w]
            rfl
           refine done_ (done_of HT_.out (by kernel_rfl)) ?_
           try go_wp2
           go_ret3
           exact ⟨by first | rfl | (simp [errW_none,errW_some] <;> rfl) | (simp only [← hji10];first | rfl | (simp [errW_none,errW_some] <;> rfl)) | (simp [*,errW_none,errW_some] <;> rfl) | (simp [errW_none,errW_some];exact isEmpty_bne _),by repeat (first | (with_reducible first | exact HB.out | apply below_alloc | apply pw_below_drewN | apply below_drew1) | exact HB.out)⟩
          ·rw [if_neg c13] at H
           have c13b0 : (t242.toList == (a0.extract 0 ((ji10) : Int).toNat).toList) = false:=beq_eq_false_iff_ne.mpr c13
           have c13b1 : (t242.toList != (a0.extract 0 ((ji10) : Int).toNat).toList) = true:=bne_iff_ne.mpr c13
           simp only [Option.some.injEq,Prod.mk.injEq] at H
           obtain ⟨rfl,rfl,rfl⟩:=H
           have p6 : 0 ≤ (x7_1 : Int):=of_decide_eq_true (by first | (with_reducible assumption) | assumption)
           have q6 : x7_1 < (a0.size : Int):=of_decide_eq_true (by first | (with_reducible assumption) | assumption)
           have hx6:=bt_at a0 x7_1
           replace p6:=eq_true p6
           replace q6:=eq_true q6
           have p7 : 0 ≤ (x7_1 : Int):=of_decide_eq_true (by first | (with_reducible assumption) | assumption)
           have q7 : x7_1 < (a0.size : Int):=of_decide_eq_true (by first | (with_reducible assumption) | assumption)
           have hx7:=bt_at a0 x7_1
           replace p7:=eq_true p7
           replace q7:=eq_true q7
           try go_wp2
           have n0_:=Aside0.mk (below_drew1 HB.out)
           clear HB
           have HB:=n0_
           clear n0_
           refine start_ (n:=7) (S:=fun w' => True) (ds:=[]) #[false,false,false,false,false,false,false] (by kernel_rfl) rfl rfl trivial (fun hHeld => ?_)
           generalize wr.drew = w19 at HB hHeld ⊢
           refine pure_ (i:=0) (N:=some 31) (v := ?_) (a' := ?_) #[true,false,false,false,false,false,false] rfl rfl (by kernel_rfl) (fun _ _ _ h => h) (Or.inl ⟨by rfl,?_⟩) ?_ ?_
           rotate_left
           ·intro w'
            go_simp
            with_reducible rfl
           rotate_left
           ·simp only [Act.put,List.setIfInBounds_toArray,List.set_cons_zero,List.set_cons_succ,i64_w,i32_w]
            rfl
           refine pure_ (i:=2) (N:=some 33) (v := ?_) (a' := ?_) #[true,false,true,false,false,false,false] rfl rfl (by kernel_rfl) (fun _ _ _ h => h) (Or.inl ⟨by rfl,?_⟩) ?_ ?_
           rotate_left
           ·intro w'
            go_simp
            with_reducible rfl
           rotate_left
           ·simp only [Act.put,List.setIfInBounds_toArray,List.set_cons_zero,List.set_cons_succ,i64_w,i32_w]
            rfl
           refine pure_ (i:=3) (N:=some 34) (v := ?_) (a' := ?_) #[true,false,true,true,false,false,false] rfl rfl (by kernel_rfl) (fun _ _ _ h => h) (Or.inl ⟨by rfl,?_⟩) ?_ ?_
           rotate_left
           ·intro w'
            go_simp
            with_reducible rfl
           rotate_left
           ·simp only [Act.put,List.setIfInBounds_toArray,List.set_cons_zero,List.set_cons_succ,i64_w,i32_w]
            rfl
           refine pure_ (i:=4) (N:=some 35) (v := ?_) (a' := ?_) #[true,false,true,true,true,false,false] rfl rfl (by kernel_rfl) (fun _ _ _ h => h) (Or.inl ⟨by rfl,?_⟩) ?_ ?_
           rotate_left
           ·intro w'
            go_simp
            with_reducible rfl
           rotate_left
           ·simp only [Act.put,List.setIfInBounds_toArray,List.set_cons_zero,List.set_cons_succ,i64_w,i32_w]
            rfl
           refine pure_ (i:=5) (N:=some 36) (v := ?_) (a' := ?_) #[true,false,true,true,true,true,false] rfl rfl (by kernel_rfl) (fun _ _ _ h => h) (Or.inl ⟨by rfl,?_⟩) ?_ ?_
           rotate_left
           ·intro w'
            go_simp
            with_reducible rfl
           rotate_left
           ·simp only [Act.put,List.setIfInBounds_toArray,List.set_cons_zero,List.set_cons_succ,i64_w,i32_w]
            rfl
           refine one_ (i:=1) (N:=some 32) #[true,true,true,true,true,true,false] rfl rfl (by kernel_rfl) (by decide) (fun K hK => ?_)
           refine goes_ Try.func27 (by kernel_rfl) rfl #[.int .u64 (IntKind.u64.wrap (x5_1 + (IntKind.u64.wrap (x6_1 * (IntKind.u64.wrap (Int.tmod (bt a0 x7_1) 128))))))] (by rfl) rfl rfl (by (try simp only [List.map_toArray,List.map_cons,List.map_nil]);first | done | rfl | (simp only [List.length_drop,List.length_take];rfl)) ?_
           with_reducible refine (thwartref01_Put.calls k1 (IntKind.u64.wrap (x5_1 + (IntKind.u64.wrap (x6_1 * (IntKind.u64.wrap (Int.tmod (bt a0 x7_1) 128)))))) t242 _ A9.out).mono ?_
           rintro e w20 ⟨rfl,hb⟩
           refine ⟨_,rfl,?_⟩
           have n0_:=Aside0.mk (below_step (by repeat (first | (with_reducible first | exact HB.out | apply below_alloc | apply pw_below_drewN | apply below_drew1) | exact HB.out)) hb)
           clear HB
           have HB:=n0_
           clear n0_
           (try clear hb)
           (try clear hb2)
           (try clear hk)
           (try clear hi)
           refine hK.out _ _ trivial (fun hHeld => ?_)
           clear hK K
           refine norm_ (a' := ?_) ?_ ?_
           rotate_left
           ·show Act.put _ (some 32) _ = _
            simp only [Act.put,List.setIfInBounds_toArray,List.set_cons_zero,List.set_cons_succ,i64_w,i32_w]
            rfl
           refine pure_ (i:=6) (N:=some 37) (v := ?_) (a' := ?_) #[true,true,true,true,true,true,true] rfl rfl (by kernel_rfl) (fun _ _ _ h => h) (Or.inl ⟨by rfl,?_⟩) ?_ ?_
           rotate_left
           ·intro w'
            go_simp
            with_reducible rfl
           rotate_left
           ·simp only [Act.put,List.setIfInBounds_toArray,List.set_cons_zero,List.set_cons_succ,i64_w,i32_w]
            rfl
           refine done_ (by kernel_rfl) ?_
           try go_wp2
           go_ret3
           exact ⟨by first | rfl | (simp [errW_none,errW_some] <;> rfl) | (simp only [← hji10];first | rfl | (simp [errW_none,errW_some] <;> rfl)) | (simp [*,errW_none,errW_some] <;> rfl) | (simp [errW_none,errW_some];exact isEmpty_bne _),by repeat (first | (with_reducible first | exact HB.out | apply below_alloc | apply pw_below_drewN | apply below_drew1) | exact HB.out)⟩
         ·rw [if_neg c12] at H
          exact absurd H (by simp)
        ·rw [if_neg c11] at H
         exact absurd H (by simp)
       ·rw [if_neg c8] at H
        have c8b0 : decide ((bt a0 x7_1) < 128) = false:=decide_eq_false c8
        clear c8
        have H' := Aside0.mk H
        clear H
        have p6 : 0 ≤ (x7_1 : Int):=of_decide_eq_true (by first | (with_reducible assumption) | assumption)
        have q6 : x7_1 < (a0.size : Int):=of_decide_eq_true (by first | (with_reducible assumption) | assumption)
        have hx6:=bt_at a0 x7_1
        replace p6:=eq_true p6
        replace q6:=eq_true q6
        have p7 : 0 ≤ (x7_1 : Int):=of_decide_eq_true (by first | (with_reducible assumption) | assumption)
        have q7 : x7_1 < (a0.size : Int):=of_decide_eq_true (by first | (with_reducible assumption) | assumption)
        have hx7:=bt_at a0 x7_1
        replace p7:=eq_true p7
        replace q7:=eq_true q7
        go_wp2
        go_roundg k1
        case measure => have:=HK1.out;omega
        case rel => exact ⟨(IntKind.u64.wrap (x5_1 + (IntKind.u64.wrap (x6_1 * (IntKind.u64.wrap (Int.tmod (bt a0 x7_1) 128)))))),(IntKind.u64.wrap (x6_1 * 128)),(wrap64 (x7_1 + 1)),(by first | rfl | (simp;done) | (simp [*];done)),(by first | rfl | (simp;done) | (simp [*];done)),(by first | rfl | (simp;done) | (simp [*];done)),H',⟨by have:=HK1.out;omega⟩,⟨by repeat (first | (with_reducible first | exact HB.out | apply below_alloc | apply pw_below_drewN | apply below_drew1) | exact HB.out)⟩⟩
      ·rw [if_neg c5] at H
       exact absurd H (by simp)
     ·rw [if_neg c4] at H
      exact absurd H (by simp)
   ·rw [if_neg c2] at H
    have c2b0 : decide (x7_1 < 10) = false:=decide_eq_false c2
    clear c2
    simp only [Option.some.injEq,Prod.mk.injEq] at H
    obtain ⟨rfl,rfl,rfl⟩:=H
    go_wp2
    go_ret3
    exact ⟨by first | rfl | (simp [errW_none,errW_some] <;> rfl) | (simp [*,errW_none,errW_some] <;> rfl) | (simp [errW_none,errW_some];exact isEmpty_bne _),by repeat (first | (with_reducible first | exact HB.out | apply below_alloc | apply pw_below_drewN | apply below_drew1) | exact HB.out)⟩

/-! ### thwartref01_OfText: function 37 -/
def thwartref01_OfText.f (k : Nat) (a0 : ByteArray) : Option (ByteArray × ByteArray × Int):=(thwartref01_Take.f k a0).bind fun bt243 => (if bt243.2.2 = 0 then (if bt243.1 > (IntKind.u64.wrap ((bt243.2.1.size : Int))) then (some ((⟨#[]⟩ : ByteArray),(⟨#[]⟩ : ByteArray),3)) else (if 0 ≤ (wrap64 (bt243.1)) then (if (wrap64 (bt243.1)) ≤ (bt243.2.1.size : Int) then (some (bt243.2.1.extract 0 ((wrap64 (bt243.1)) : Int).toNat,bt243.2.1.extract ((wrap64 (bt243.1)) : Int).toNat bt243.2.1.size,0)) else (none)) else (none))) else (some ((⟨#[]⟩ : ByteArray),(⟨#[]⟩ : ByteArray),bt243.2.2)))
theorem thwartref01_OfText.mono : ∀ a0 k,LeO (thwartref01_OfText.f k a0) (thwartref01_OfText.f (k + 1) a0):=by
 intro a0 k
 unfold thwartref01_OfText.f
 repeat' first
   | (with_reducible exact thwartref01_Take.mono _ _)
   | (with_reducible exact LeO.refl _)
   | (with_reducible exact LeO.none _)
   | (with_reducible refine LeO.ite ?_ ?_)
   | (with_reducible refine LeO.bind ?_ (fun _ => ?_))
   | exact thwartref01_Take.mono _ _
   | exact LeO.none _
   | refine LeO.ite ?_ ?_
   | refine LeO.bind ?_ (fun _ => ?_)
set_option maxHeartbeats 8000000 in
set_option maxRecDepth 100000 in
theorem thwartref01_OfText.calls (k : Nat) (a0 : ByteArray) (r1 : ByteArray) (r2 : ByteArray) (r3 : Int) (w : World) (h : thwartref01_OfText.f k a0 = some (r1,r2,r3)) :
  Calls Try.prog 37 #[.string a0] w fun e w' => e = .returned (.tuple #[.string r1,.string r2,.int .i64 r3]) ∧ Below w.heap.size w w' := by
 have HB:=Aside0.mk (Below.refl w.heap.size w)
 have H : ((thwartref01_Take.f k a0).bind fun bt243 => (if bt243.2.2 = 0 then (if bt243.1 > (IntKind.u64.wrap ((bt243.2.1.size : Int))) then (some ((⟨#[]⟩ : ByteArray),(⟨#[]⟩ : ByteArray),3)) else (if 0 ≤ (wrap64 (bt243.1)) then (if (wrap64 (bt243.1)) ≤ (bt243.2.1.size : Int) then (some (bt243.2.1.extract 0 ((wrap64 (bt243.1)) : Int).toNat,bt243.2.1.extract ((wrap64 (bt243.1)) : Int).toNat bt243.2.1.size,0)) else (none)) else (none))) else (some ((⟨#[]⟩ : ByteArray),(⟨#[]⟩ : ByteArray),bt243.2.2)))) = some (r1,r2,r3):=h
 clear h
 replace H:=Option.bind_eq_some_iff.mp H
 obtain ⟨⟨t243,t244,t245⟩,A20,H⟩:=H
 replace H : (if t245 = 0 then (if t243 > (IntKind.u64.wrap ((t244.size : Int))) then (some ((⟨#[]⟩ : ByteArray),(⟨#[]⟩ : ByteArray),3)) else (if 0 ≤ (wrap64 (t243)) then (if (wrap64 (t243)) ≤ (t244.size : Int) then (some (t244.extract 0 ((wrap64 (t243)) : Int).toNat,t244.extract ((wrap64 (t243)) : Int).toNat t244.size,0)) else (none)) else (none))) else (some ((⟨#[]⟩ : ByteArray),(⟨#[]⟩ : ByteArray),t245))) = some (r1,r2,r3):=H
 have A2:=Aside0.mk A20
 clear A20
 by_cases c3 : t245 = 0
 ·rw [if_pos c3] at H
  have c3b0 : (t245 == 0) = true:=beq_iff_eq.mpr c3
  have c3b1 : (t245 != 0) = false:=bne_eq_false_iff_eq.mpr c3
  clear c3
  by_cases c4 : t243 > (IntKind.u64.wrap ((t244.size : Int)))
  ·rw [if_pos c4] at H
   have c4b0 : decide ((IntKind.u64.wrap ((t244.size : Int))) < t243) = true:=decide_eq_true c4
   clear c4
   simp only [Option.some.injEq,Prod.mk.injEq] at H
   obtain ⟨rfl,rfl,rfl⟩:=H
   go_enter Try.func37,Try.ntmps37
   go_wp2_with (first | (go_at_call 36;(with_reducible refine (thwartref01_Take.calls k a0 t243 t244 t245 _ A2.out).mono ?_);rintro e w5 ⟨rfl,hb⟩;have n0_:=Aside0.mk (below_step (by repeat (first | (with_reducible first | exact HB.out | apply below_alloc | apply pw_below_drewN | apply below_drew1) | exact HB.out)) hb);clear HB;have HB:=n0_;clear n0_;(try clear hb);(try clear hb2);(try clear hk);(try clear hi)))
   repeat (go_quiet (first | (go_at_call 36;(with_reducible refine (thwartref01_Take.calls k a0 t243 t244 t245 _ A2.out).mono ?_);rintro e w5 ⟨rfl,hb⟩;have n0_:=Aside0.mk (below_step (by repeat (first | (with_reducible first | exact HB.out | apply below_alloc | apply pw_below_drewN | apply below_drew1) | exact HB.out)) hb);clear HB;have HB:=n0_;clear n0_;(try clear hb);(try clear hb2);(try clear hk);(try clear hi)));try go_wp2_with (first | (go_at_call 36;(with_reducible refine (thwartref01_Take.calls k a0 t243 t244 t245 _ A2.out).mono ?_);rintro e w5 ⟨rfl,hb⟩;have n0_:=Aside0.mk (below_step (by repeat (first | (with_reducible first | exact HB.out | apply below_alloc | apply pw_below_drewN | apply below_drew1) | exact HB.out)) hb);clear HB;have HB:=n0_;clear n0_;(try clear hb);(try clear hb2);(try clear hk);(try clear hi))))
   go_ret3
   exact ⟨by first | rfl | (simp [errW_none,errW_some] <;> rfl) | (simp [*,errW_none,errW_some] <;> rfl) | (simp [errW_none,errW_some];exact isEmpty_bne _),by repeat (first | (with_reducible first | exact HB.out | apply below_alloc | apply pw_below_drewN | apply below_drew1) | exact HB.out)⟩
  ·rw [if_neg c4] at H
   have c4b0 : decide ((IntKind.u64.wrap ((t244.size : Int))) < t243) = false:=decide_eq_false c4
   clear c4
   obtain ⟨ji6,hji6⟩ : ∃ j_ : Int,(wrap64 (t243)) = j_:=⟨_,rfl⟩
   replace H : (if 0 ≤ (ji6) then (if (ji6) ≤ (t244.size : Int) then (some (t244.extract 0 ((ji6) : Int).toNat,t244.extract ((ji6) : Int).toNat t244.size,0)) else (none)) else (none)) = some (r1,r2,r3):=by first | (rw [hji6] at H;exact H) | (simp only [hji6] at H ⊢;exact H)
   (try rw [hji6] at A2)
   have hji6w : (IntKind.i64.wrap (t243)) = ji6:=(i64_w _).trans hji6
   by_cases c7 : 0 ≤ (ji6)
   ·rw [if_pos c7] at H
    have c7b0:=eq_true c7
    have c7b1 : decide (0 ≤ (ji6)) = true:=decide_eq_true c7
    clear c7
    by_cases c8 : (ji6) ≤ (t244.size : Int)
    ·rw [if_pos c8] at H
     have c8b0:=eq_true c8
     have c8b1 : decide ((ji6) ≤ (t244.size : Int)) = true:=decide_eq_true c8
     clear c8
     have c9b0:=eq_true (of_decide_eq_true (by first | (with_reducible assumption) | assumption) : 0 ≤ (ji6))
     have c10b0:=eq_true (of_decide_eq_true (by first | (with_reducible assumption) | assumption) : (ji6) ≤ (t244.size : Int))
     simp only [Option.some.injEq,Prod.mk.injEq] at H
     obtain ⟨rfl,rfl,rfl⟩:=H
     go_enter Try.func37,Try.ntmps37
     go_wp2_with (first | (go_at_call 36;(with_reducible refine (thwartref01_Take.calls k a0 t243 t244 t245 _ A2.out).mono ?_);rintro e w11 ⟨rfl,hb⟩;have n0_:=Aside0.mk (below_step (by repeat (first | (with_reducible first | exact HB.out | apply below_alloc | apply pw_below_drewN | apply below_drew1) | exact HB.out)) hb);clear HB;have HB:=n0_;clear n0_;(try clear hb);(try clear hb2);(try clear hk);(try clear hi)))
     repeat (go_quiet (first | (go_at_call 36;(with_reducible refine (thwartref01_Take.calls k a0 t243 t244 t245 _ A2.out).mono ?_);rintro e w11 ⟨rfl,hb⟩;have n0_:=Aside0.mk (below_step (by repeat (first | (with_reducible first | exact HB.out | apply below_alloc | apply pw_below_drewN | apply below_drew1) | exact HB.out)) hb);clear HB;have HB:=n0_;clear n0_;(try clear hb);(try clear hb2);(try clear hk);(try clear hi)));try go_wp2_with (first | (go_at_call 36;(with_reducible refine (thwartref01_Take.calls k a0 t243 t244 t245 _ A2.out).mono ?_);rintro e w11 ⟨rfl,hb⟩;have n0_:=Aside0.mk (below_step (by repeat (first | (with_reducible first | exact HB.out | apply below_alloc | apply pw_below_drewN | apply below_drew1) | exact HB.out)) hb);clear HB;have HB:=n0_;clear n0_;(try clear hb);(try clear hb2);(try clear hk);(try clear hi))))
     go_ret3
     exact ⟨by first | rfl | (simp [errW_none,errW_some] <;> rfl) | (simp only [← hji6];first | rfl | (simp [errW_none,errW_some] <;> rfl)) | (simp [*,errW_none,errW_some] <;> rfl) | (simp [errW_none,errW_some];exact isEmpty_bne _),by repeat (first | (with_reducible first | exact HB.out | apply below_alloc | apply pw_below_drewN | apply below_drew1) | exact HB.out)⟩
    ·rw [if_neg c8] at H
     exact absurd H (by simp)
   ·rw [if_neg c7] at H
    exact absurd H (by simp)
 ·rw [if_neg c3] at H
  have c3b0 : (t245 == 0) = false:=beq_eq_false_iff_ne.mpr c3
  have c3b1 : (t245 != 0) = true:=bne_iff_ne.mpr c3
  simp only [Option.some.injEq,Prod.mk.injEq] at H
  obtain ⟨rfl,rfl,rfl⟩:=H
  go_enter Try.func37,Try.ntmps37
  go_wp2_with (first | (go_at_call 36;(with_reducible refine (thwartref01_Take.calls k a0 t243 t244 t245 _ A2.out).mono ?_);rintro e w12 ⟨rfl,hb⟩;have n0_:=Aside0.mk (below_step (by repeat (first | (with_reducible first | exact HB.out | apply below_alloc | apply pw_below_drewN | apply below_drew1) | exact HB.out)) hb);clear HB;have HB:=n0_;clear n0_;(try clear hb);(try clear hb2);(try clear hk);(try clear hi)))
  repeat (go_quiet (first | (go_at_call 36;(with_reducible refine (thwartref01_Take.calls k a0 t243 t244 t245 _ A2.out).mono ?_);rintro e w12 ⟨rfl,hb⟩;have n0_:=Aside0.mk (below_step (by repeat (first | (with_reducible first | exact HB.out | apply below_alloc | apply pw_below_drewN | apply below_drew1) | exact HB.out)) hb);clear HB;have HB:=n0_;clear n0_;(try clear hb);(try clear hb2);(try clear hk);(try clear hi)));try go_wp2_with (first | (go_at_call 36;(with_reducible refine (thwartref01_Take.calls k a0 t243 t244 t245 _ A2.out).mono ?_);rintro e w12 ⟨rfl,hb⟩;have n0_:=Aside0.mk (below_step (by repeat (first | (with_reducible first | exact HB.out | apply below_alloc | apply pw_below_drewN | apply below_drew1) | exact HB.out)) hb);clear HB;have HB:=n0_;clear n0_;(try clear hb);(try clear hb2);(try clear hk);(try clear hi))))
  go_ret3
  exact ⟨by first | rfl | (simp [errW_none,errW_some] <;> rfl) | (simp [*,errW_none,errW_some] <;> rfl) | (simp [errW_none,errW_some];exact isEmpty_bne _),by repeat (first | (with_reducible first | exact HB.out | apply below_alloc | apply pw_below_drewN | apply below_drew1) | exact HB.out)⟩

/-! ### thwartref05_Read: function 13 -/
def thwartref05_Read.l0 : Nat → ByteArray → ByteArray → List (S49) → Option ((List (S49)) × Int)
 | 0,_,_,_ => none
 | k + 1,x0,x4,x8 => if (x4.size : Int) > 0 then ((thwartref01_OfText.f k x4).bind fun bt253 => ((thwartref01_Take.f k bt253.2.1).bind fun bt256 => ((thwartref01_Take.f k bt256.2.1).bind fun bt259 => ((thwartref01_Take.f k bt259.2.1).bind fun bt262 => (if bt253.2.2 = 0 then (if bt256.2.2 = 0 then (if bt259.2.2 = 0 then (if bt262.2.2 = 0 then (if bt256.1 > 1048576 then (some (([] : List (S49)),2)) else (if bt259.1 > 1000 then (some (([] : List (S49)),2)) else (if x8.length < 2932031007402 then (thwartref05_Read.l0 k x0 bt262.2.1 (x8 ++ [(⟨bt253.1,wrap64 (bt256.1),wrap64 (IntKind.u64.wrap (Int.tdiv bt259.1 2)),bt262.1,((Int.tmod bt259.1 2) == 1)⟩ : S49)])) else (none)))) else (some (([] : List (S49)),2))) else (some (([] : List (S49)),2))) else (some (([] : List (S49)),2))) else (some (([] : List (S49)),2))))))) else ((thwartref05_Bytes.f k x8).bind fun bt251 => (if bt251.2 = 0 then (if bt251.1.toList = x0.toList then (some (x8,0)) else (some (([] : List (S49)),2))) else (some (([] : List (S49)),2))))
def thwartref05_Read.f (k : Nat) (a0 : ByteArray) : Option ((List (S49)) × Int):=(thwartref02_Open.f k a0).bind fun bt246 => (if bt246.2 = true then ((thwartref01_Take.f k bt246.1).bind fun bt248 => (if bt248.2.2 = 0 then (thwartref05_Read.l0 k a0 bt248.2.1 ([] : List (S49))) else (some (([] : List (S49)),2)))) else (some (([] : List (S49)),4)))
theorem thwartref05_Read.mono_l : ∀ k,(∀ y0 y1 y2,LeO (thwartref05_Read.l0 k y0 y1 y2) (thwartref05_Read.l0 (k + 1) y0 y1 y2))
 | 0 => fun _ _ _ r h => by simp [thwartref05_Read.l0] at h
 | k + 1 => by
  have ih0:=thwartref05_Read.mono_l k
  ·intro y0 y1 y2
   unfold thwartref05_Read.l0
   repeat' first
   | (with_reducible exact ih0 _ _ _)
   | (with_reducible exact thwartref01_OfText.mono _ _)
   | (with_reducible exact thwartref01_Take.mono _ _)
   | (with_reducible exact thwartref02_Open.mono _ _)
   | (with_reducible exact thwartref05_Bytes.mono _ _)
   | (with_reducible exact LeO.refl _)
   | (with_reducible exact LeO.none _)
   | (with_reducible refine LeO.ite ?_ ?_)
   | (with_reducible refine LeO.bind ?_ (fun _ => ?_))
   | exact ih0 _ _ _
   | exact thwartref01_OfText.mono _ _
   | exact thwartref01_Take.mono _ _
   | exact thwartref02_Open.mono _ _
   | exact thwartref05_Bytes.mono _ _
   | exact LeO.none _
   | refine LeO.ite ?_ ?_
   | refine LeO.bind ?_ (fun _ => ?_)
theorem thwartref05_Read.mono : ∀ a0 k,LeO (thwartref05_Read.f k a0) (thwartref05_Read.f (k + 1) a0):=by
 intro a0 k
 have ih0:=thwartref05_Read.mono_l k
 unfold thwartref05_Read.f
 repeat' first
   | (with_reducible exact ih0 _ _ _)
   | (with_reducible exact thwartref01_OfText.mono _ _)
   | (with_reducible exact thwartref01_Take.mono _ _)
   | (with_reducible exact thwartref02_Open.mono _ _)
   | (with_reducible exact thwartref05_Bytes.mono _ _)
   | (with_reducible exact LeO.refl _)
   | (with_reducible exact LeO.none _)
   | (with_reducible refine LeO.ite ?_ ?_)
   | (with_reducible refine LeO.bind ?_ (fun _ => ?_))
   | exact ih0 _ _ _
   | exact thwartref01_OfText.mono _ _
   | exact thwartref01_Take.mono _ _
   | exact thwartref02_Open.mono _ _
   | exact thwartref05_Bytes.mono _ _
   | exact LeO.none _
   | refine LeO.ite ?_ ?_
   | refine LeO.bind ?_ (fun _ => ?_)
set_option maxHeartbeats 8000000 in
set_option maxRecDepth 100000 in
theorem thwartref05_Read.calls (k : Nat) (a0 : ByteArray) (r1 : List (S49)) (r2 : Int) (w : World) (h : thwartref05_Read.f k a0 = some (r1,r2)) :
  Calls Try.prog 13 #[.string a0] w fun e w' => ∃ v0_ : Value,e = .returned (.tuple #[v0_,.int .i64 r2]) ∧ Kd.R k49 49 w' w.heap.size (fun _ => True) v0_ r1 ∧ Below w.heap.size w w' := by
 have hu49:=Try.underlying49
 have HB:=Aside0.mk (Below.refl w.heap.size w)
 have H : ((thwartref02_Open.f k a0).bind fun bt246 => (if bt246.2 = true then ((thwartref01_Take.f k bt246.1).bind fun bt248 => (if bt248.2.2 = 0 then (thwartref05_Read.l0 k a0 bt248.2.1 ([] : List (S49))) else (some (([] : List (S49)),2)))) else (some (([] : List (S49)),4)))) = some (r1,r2):=h
 clear h
 replace H:=Option.bind_eq_some_iff.mp H
 obtain ⟨⟨t246,t247⟩,A20,H⟩:=H
 replace H : (if t247 = true then ((thwartref01_Take.f k t246).bind fun bt248 => (if bt248.2.2 = 0 then (thwartref05_Read.l0 k a0 bt248.2.1 ([] : List (S49))) else (some (([] : List (S49)),2)))) else (some (([] : List (S49)),4))) = some (r1,r2):=H
 have A2:=Aside0.mk A20
 clear A20
 by_cases c3 : t247 = true
 ·subst c3
  have H1 : ((thwartref01_Take.f k t246).bind fun bt248 => (if bt248.2.2 = 0 then (thwartref05_Read.l0 k a0 bt248.2.1 ([] : List (S49))) else (some (([] : List (S49)),2)))) = some (r1,r2):=by rw [if_pos rfl] at H;exact H
  clear H
  have H:=H1
  clear H1
  replace H:=Option.bind_eq_some_iff.mp H
  obtain ⟨⟨t248,t249,t250⟩,A40,H⟩:=H
  replace H : (if t250 = 0 then (thwartref05_Read.l0 k a0 t249 ([] : List (S49))) else (some (([] : List (S49)),2))) = some (r1,r2):=H
  have A4:=Aside0.mk A40
  clear A40
  by_cases c5 : t250 = 0
  ·rw [if_pos c5] at H
   have c5b0 : (t250 == 0) = true:=beq_iff_eq.mpr c5
   have c5b1 : (t250 != 0) = false:=bne_eq_false_iff_eq.mpr c5
   clear c5
   have H' := Aside0.mk H
   clear H
   go_enter Try.func13,Try.ntmps13
   go_wp2_with (first | ((with_reducible refine gate_callee (f:=35) rfl ?_);refine goesL_ (some 25) rfl rfl Try.func35 (by kernel_rfl) rfl #[.string a0] rfl (by (try simp only [List.map_toArray,List.map_cons,List.map_nil]);first | done | rfl | (simp only [List.length_drop,List.length_take];rfl)) ?_;(with_reducible refine (thwartref02_Open.calls k a0 t246 true _ A2.out).mono ?_);rintro e w6 ⟨rfl,hb⟩;refine ⟨_,rfl,?_⟩;have n0_:=Aside0.mk (below_step (by repeat (first | (with_reducible first | exact HB.out | apply below_alloc | apply pw_below_drewN | apply below_drew1) | exact HB.out)) hb);clear HB;have HB:=n0_;clear n0_;(try clear hb);(try clear hb2);(try clear hk);(try clear hi)) | ((with_reducible refine gate_callee (f:=36) rfl ?_);refine goesL_ (some 32) rfl rfl Try.func36 (by kernel_rfl) rfl #[.string t246] rfl (by (try simp only [List.map_toArray,List.map_cons,List.map_nil]);first | done | rfl | (simp only [List.length_drop,List.length_take];rfl)) ?_;(with_reducible refine (thwartref01_Take.calls k t246 t248 t249 t250 _ A4.out).mono ?_);rintro e w7 ⟨rfl,hb⟩;refine ⟨_,rfl,?_⟩;have n0_:=Aside0.mk (below_step (by repeat (first | (with_reducible first | exact HB.out | apply below_alloc | apply pw_below_drewN | apply below_drew1) | exact HB.out)) hb);clear HB;have HB:=n0_;clear n0_;(try clear hb);(try clear hb2);(try clear hk);(try clear hi)))
   go_loopg [4,8] k (fun kq v4 v8 w' => ∃ (x4_1 : ByteArray) (x8_1 : List (S49)),v4 = .string x4_1 ∧ Aside0 (thwartref05_Read.l0 kq a0 x4_1 x8_1 = some (r1,r2)) ∧ Aside0 (kq ≤ k) ∧ Aside0 (Kd.R k49 49 w' w.heap.size (fun _ => True) v8 x8_1) ∧ Aside0 (Below w.heap.size w w'))
   case atStart => exact ⟨(t249),(([] : List (S49))),(by first | rfl | (simp;done) | (simp [*];done)),H',⟨Nat.le_refl _⟩,⟨by first | exact Kd.R_nil _ _ _ _ _ | exact Kd.N_nil _ _ _ _ _ | exact Kd.V_nil _ _ _ _ _ | exact Kd.Q_nil _ _ _ _ _ | exact Kd.S_nil _ _ _ _ _⟩,⟨by repeat (first | (with_reducible first | exact HB.out | apply below_alloc | apply pw_below_drewN | apply below_drew1) | exact HB.out)⟩⟩
   case round =>
    clear H'
    try clear c1
    try clear p2
    try clear c3
    try clear c5
    try clear c5b0
    try clear c5b1
    obtain ⟨x4_1,x8_1,rfl,HA,HK1,HO_8,HB⟩:=hrel
    cases gk with
    | zero => exact absurd HA.out (by simp [thwartref05_Read.l0])
    | succ k1 =>
     have H:=HA.out
     clear HA
     simp only [thwartref05_Read.l0] at H
     by_cases c8 : (x4_1.size : Int) > 0
     ·rw [if_pos c8] at H
      have c8b0 : decide (0 < (x4_1.size : Int)) = true:=decide_eq_true c8
      have c8b1 : decide (0 < x4_1.size) = true:=decide_eq_true (by omega)
      clear c8
      replace H:=Option.bind_eq_some_iff.mp H
      obtain ⟨⟨t253,t254,t255⟩,A90,H⟩:=H
      replace H : ((thwartref01_Take.f k1 t254).bind fun bt256 => ((thwartref01_Take.f k1 bt256.2.1).bind fun bt259 => ((thwartref01_Take.f k1 bt259.2.1).bind fun bt262 => (if t255 = 0 then (if bt256.2.2 = 0 then (if bt259.2.2 = 0 then (if bt262.2.2 = 0 then (if bt256.1 > 1048576 then (some (([] : List (S49)),2)) else (if bt259.1 > 1000 then (some (([] : List (S49)),2)) else (if x8_1.length < 2932031007402 then (thwartref05_Read.l0 k1 a0 bt262.2.1 (x8_1 ++ [(⟨t253,wrap64 (bt256.1),wrap64 (IntKind.u64.wrap (Int.tdiv bt259.1 2)),bt262.1,((Int.tmod bt259.1 2) == 1)⟩ : S49)])) else (none)))) else (some (([] : List (S49)),2))) else (some (([] : List (S49)),2))) else (some (([] : List (S49)),2))) else (some (([] : List (S49)),2)))))) = some (r1,r2):=H
      have A9:=Aside0.mk A90
      clear A90
      replace H:=Option.bind_eq_some_iff.mp H
      obtain ⟨⟨t256,t257,t258⟩,A100,H⟩:=H
      replace H : ((thwartref01_Take.f k1 t257).bind fun bt259 => ((thwartref01_Take.f k1 bt259.2.1).bind fun bt262 => (if t255 = 0 then (if t258 = 0 then (if bt259.2.2 = 0 then (if bt262.2.2 = 0 then (if t256 > 1048576 then (some (([] : List (S49)),2)) else (if bt259.1 > 1000 then (some (([] : List (S49)),2)) else (if x8_1.length < 2932031007402 then (thwartref05_Read.l0 k1 a0 bt262.2.1 (x8_1 ++ [(⟨t253,wrap64 (t256),wrap64 (IntKind.u64.wrap (Int.tdiv bt259.1 2)),bt262.1,((Int.tmod bt259.1 2) == 1)⟩ : S49)])) else (none)))) else (some (([] : List (S49)),2))) else (some (([] : List (S49)),2))) else (some (([] : List (S49)),2))) else (some (([] : List (S49)),2))))) = some (r1,r2):=H
      have A10:=Aside0.mk A100
      clear A100
      replace H:=Option.bind_eq_some_iff.mp H
      obtain ⟨⟨t259,t260,t261⟩,A110,H⟩:=H
      replace H : ((thwartref01_Take.f k1 t260).bind fun bt262 => (if t255 = 0 then (if t258 = 0 then (if t261 = 0 then (if bt262.2.2 = 0 then (if t256 > 1048576 then (some (([] : List (S49)),2)) else (if t259 > 1000 then (some (([] : List (S49)),2)) else (if x8_1.length < 2932031007402 then (thwartref05_Read.l0 k1 a0 bt262.2.1 (x8_1 ++ [(⟨t253,wrap64 (t256),wrap64 (IntKind.u64.wrap (Int.tdiv t259 2)),bt262.1,((Int.tmod t259 2) == 1)⟩ : S49)])) else (none)))) else (some (([] : List (S49)),2))) else (some (([] : List (S49)),2))) else (some (([] : List (S49)),2))) else (some (([] : List (S49)),2)))) = some (r1,r2):=H
      have A11:=Aside0.mk A110
      clear A110
      replace H:=Option.bind_eq_some_iff.mp H
      obtain ⟨⟨t262,t263,t264⟩,A120,H⟩:=H
      replace H : (if t255 = 0 then (if t258 = 0 then (if t261 = 0 then (if t264 = 0 then (if t256 > 1048576 then (some (([] : List (S49)),2)) else (if t259 > 1000 then (some (([] : List (S49)),2)) else (if x8_1.length < 2932031007402 then (thwartref05_Read.l0 k1 a0 t263 (x8_1 ++ [(⟨t253,wrap64 (t256),wrap64 (IntKind.u64.wrap (Int.tdiv t259 2)),t262,((Int.tmod t259 2) == 1)⟩ : S49)])) else (none)))) else (some (([] : List (S49)),2))) else (some (([] : List (S49)),2))) else (some (([] : List (S49)),2))) else (some (([] : List (S49)),2))) = some (r1,r2):=H
      have A12:=Aside0.mk A120
      clear A120
      by_cases c13 : t255 = 0
      ·rw [if_pos c13] at H
       have c13b0 : (t255 == 0) = true:=beq_iff_eq.mpr c13
       have c13b1 : (t255 != 0) = false:=bne_eq_false_iff_eq.mpr c13
       clear c13
       by_cases c14 : t258 = 0
       ·rw [if_pos c14] at H
        have c14b0 : (t258 == 0) = true:=beq_iff_eq.mpr c14
        have c14b1 : (t258 != 0) = false:=bne_eq_false_iff_eq.mpr c14
        clear c14
        by_cases c15 : t261 = 0
        ·rw [if_pos c15] at H
         have c15b0 : (t261 == 0) = true:=beq_iff_eq.mpr c15
         have c15b1 : (t261 != 0) = false:=bne_eq_false_iff_eq.mpr c15
         clear c15
         by_cases c16 : t264 = 0
         ·rw [if_pos c16] at H
          have c16b0 : (t264 == 0) = true:=beq_iff_eq.mpr c16
          have c16b1 : (t264 != 0) = false:=bne_eq_false_iff_eq.mpr c16
          clear c16
          by_cases c17 : t256 > 1048576
          ·rw [if_pos c17] at H
           have c17b0 : decide (1048576 < t256) = true:=decide_eq_true c17
           clear c17
           simp only [Option.some.injEq,Prod.mk.injEq] at H
           obtain ⟨rfl,rfl⟩:=H
           go_wp2_with (first | ((with_reducible refine gate_callee (f:=37) rfl ?_);refine goesL_ (some 43) rfl rfl Try.func37 (by kernel_rfl) rfl #[.string x4_1] rfl (by (try simp only [List.map_toArray,List.map_cons,List.map_nil]);first | done | rfl | (simp only [List.length_drop,List.length_take];rfl)) ?_;(with_reducible refine (thwartref01_OfText.calls k1 x4_1 t253 t254 t255 _ A9.out).mono ?_);rintro e w18 ⟨rfl,hb⟩;refine ⟨_,rfl,?_⟩;have n0_:=Aside0.mk (Kd.R_below (by (with_reducible repeat (first | apply Kd.R_alloc | apply Kd.R_drewN | apply Kd.R_drew));exact HO_8.out) hb);have n1_:=Aside0.mk (below_step (by repeat (first | (with_reducible first | exact HB.out | apply below_alloc | apply pw_below_drewN | apply below_drew1) | exact HB.out)) hb);clear HO_8;clear HB;have HO_8:=n0_;have HB:=n1_;clear n0_ n1_;(try clear hb);(try clear hb2);(try clear hk);(try clear hi)) | ((with_reducible refine gate_callee (f:=36) rfl ?_);refine goesL_ (some 49) rfl rfl Try.func36 (by kernel_rfl) rfl #[.string t254] rfl (by (try simp only [List.map_toArray,List.map_cons,List.map_nil]);first | done | rfl | (simp only [List.length_drop,List.length_take];rfl)) ?_;(with_reducible refine (thwartref01_Take.calls k1 t254 t256 t257 t258 _ A10.out).mono ?_);rintro e w19 ⟨rfl,hb⟩;refine ⟨_,rfl,?_⟩;have n0_:=Aside0.mk (Kd.R_below (by (with_reducible repeat (first | apply Kd.R_alloc | apply Kd.R_drewN | apply Kd.R_drew));exact HO_8.out) hb);have n1_:=Aside0.mk (below_step (by repeat (first | (with_reducible first | exact HB.out | apply below_alloc | apply pw_below_drewN | apply below_drew1) | exact HB.out)) hb);clear HO_8;clear HB;have HO_8:=n0_;have HB:=n1_;clear n0_ n1_;(try clear hb);(try clear hb2);(try clear hk);(try clear hi)) | ((with_reducible refine gate_callee (f:=36) rfl ?_);refine goesL_ (some 55) rfl rfl Try.func36 (by kernel_rfl) rfl #[.string t257] rfl (by (try simp only [List.map_toArray,List.map_cons,List.map_nil]);first | done | rfl | (simp only [List.length_drop,List.length_take];rfl)) ?_;(with_reducible refine (thwartref01_Take.calls k1 t257 t259 t260 t261 _ A11.out).mono ?_);rintro e w20 ⟨rfl,hb⟩;refine ⟨_,rfl,?_⟩;have n0_:=Aside0.mk (Kd.R_below (by (with_reducible repeat (first | apply Kd.R_alloc | apply Kd.R_drewN | apply Kd.R_drew));exact HO_8.out) hb);have n1_:=Aside0.mk (below_step (by repeat (first | (with_reducible first | exact HB.out | apply below_alloc | apply pw_below_drewN | apply below_drew1) | exact HB.out)) hb);clear HO_8;clear HB;have HO_8:=n0_;have HB:=n1_;clear n0_ n1_;(try clear hb);(try clear hb2);(try clear hk);(try clear hi)) | ((with_reducible refine gate_callee (f:=36) rfl ?_);refine goesL_ (some 61) rfl rfl Try.func36 (by kernel_rfl) rfl #[.string t260] rfl (by (try simp only [List.map_toArray,List.map_cons,List.map_nil]);first | done | rfl | (simp only [List.length_drop,List.length_take];rfl)) ?_;(with_reducible refine (thwartref01_Take.calls k1 t260 t262 t263 t264 _ A12.out).mono ?_);rintro e w21 ⟨rfl,hb⟩;refine ⟨_,rfl,?_⟩;have n0_:=Aside0.mk (Kd.R_below (by (with_reducible repeat (first | apply Kd.R_alloc | apply Kd.R_drewN | apply Kd.R_drew));exact HO_8.out) hb);have n1_:=Aside0.mk (below_step (by repeat (first | (with_reducible first | exact HB.out | apply below_alloc | apply pw_below_drewN | apply below_drew1) | exact HB.out)) hb);clear HO_8;clear HB;have HO_8:=n0_;have HB:=n1_;clear n0_ n1_;(try clear hb);(try clear hb2);(try clear hk);(try clear hi)))
           go_ret2
           exact ⟨_,by first | rfl | (simp [errW_none,errW_some] <;> rfl) | (simp [*,errW_none,errW_some] <;> rfl) | (simp [errW_none,errW_some];exact isEmpty_bne _),by first | exact Kd.R_nil _ _ _ _ _ | exact Kd.N_nil _ _ _ _ _ | exact Kd.V_nil _ _ _ _ _ | exact Kd.Q_nil _ _ _ _ _ | exact Kd.S_nil _ _ _ _ _,by repeat (first | (with_reducible first | exact HB.out | apply below_alloc | apply pw_below_drewN | apply below_drew1) | exact HB.out)⟩
          ·rw [if_neg c17] at H
           have c17b0 : decide (1048576 < t256) = false:=decide_eq_false c17
           clear c17
           by_cases c22 : t259 > 1000
           ·rw [if_pos c22] at H
            have c22b0 : decide (1000 < t259) = true:=decide_eq_true c22
            clear c22
            simp only [Option.some.injEq,Prod.mk.injEq] at H
            obtain ⟨rfl,rfl⟩:=H
            go_wp2_with (first | ((with_reducible refine gate_callee (f:=37) rfl ?_);refine goesL_ (some 43) rfl rfl Try.func37 (by kernel_rfl) rfl #[.string x4_1] rfl (by (try simp only [List.map_toArray,List.map_cons,List.map_nil]);first | done | rfl | (simp only [List.length_drop,List.length_take];rfl)) ?_;(with_reducible refine (thwartref01_OfText.calls k1 x4_1 t253 t254 t255 _ A9.out).mono ?_);rintro e w23 ⟨rfl,hb⟩;refine ⟨_,rfl,?_⟩;have n0_:=Aside0.mk (Kd.R_below (by (with_reducible repeat (first | apply Kd.R_alloc | apply Kd.R_drewN | apply Kd.R_drew));exact HO_8.out) hb);have n1_:=Aside0.mk (below_step (by repeat (first | (with_reducible first | exact HB.out | apply below_alloc | apply pw_below_drewN | apply below_drew1) | exact HB.out)) hb);clear HO_8;clear HB;have HO_8:=n0_;have HB:=n1_;clear n0_ n1_;(try clear hb);(try clear hb2);(try clear hk);(try clear hi)) | ((with_reducible refine gate_callee (f:=36) rfl ?_);refine goesL_ (some 49) rfl rfl Try.func36 (by kernel_rfl) rfl #[.string t254] rfl (by (try simp only [List.map_toArray,List.map_cons,List.map_nil]);first | done | rfl | (simp only [List.length_drop,List.length_take];rfl)) ?_;(with_reducible refine (thwartref01_Take.calls k1 t254 t256 t257 t258 _ A10.out).mono ?_);rintro e w24 ⟨rfl,hb⟩;refine ⟨_,rfl,?_⟩;have n0_:=Aside0.mk (Kd.R_below (by (with_reducible repeat (first | apply Kd.R_alloc | apply Kd.R_drewN | apply Kd.R_drew));exact HO_8.out) hb);have n1_:=Aside0.mk (below_step (by repeat (first | (with_reducible first | exact HB.out | apply below_alloc | apply pw_below_drewN | apply below_drew1) | exact HB.out)) hb);clear HO_8;clear HB;have HO_8:=n0_;have HB:=n1_;clear n0_ n1_;(try clear hb);(try clear hb2);(try clear hk);(try clear hi)) | ((with_reducible refine gate_callee (f:=36) rfl ?_);refine goesL_ (some 55) rfl rfl Try.func36 (by kernel_rfl) rfl #[.string t257] rfl (by (try simp only [List.map_toArray,List.map_cons,List.map_nil]);first | done | rfl | (simp only [List.length_drop,List.length_take];rfl)) ?_;(with_reducible refine (thwartref01_Take.calls k1 t257 t259 t260 t261 _ A11.out).mono ?_);rintro e w25 ⟨rfl,hb⟩;refine ⟨_,rfl,?_⟩;have n0_:=Aside0.mk (Kd.R_below (by (with_reducible repeat (first | apply Kd.R_alloc | apply Kd.R_drewN | apply Kd.R_drew));exact HO_8.out) hb);have n1_:=Aside0.mk (below_step (by repeat (first | (with_reducible first | exact HB.out | apply below_alloc | apply pw_below_drewN | apply below_drew1) | exact HB.out)) hb);clear HO_8;clear HB;have HO_8:=n0_;have HB:=n1_;clear n0_ n1_;(try clear hb);(try clear hb2);(try clear hk);(try clear hi)) | ((with_reducible refine gate_callee (f:=36) rfl ?_);refine goesL_ (some 61) rfl rfl Try.func36 (by kernel_rfl) rfl #[.string t260] rfl (by (try simp only [List.map_toArray,List.map_cons,List.map_nil]);first | done | rfl | (simp only [List.length_drop,List.length_take];rfl)) ?_;(with_reducible refine (thwartref01_Take.calls k1 t260 t262 t263 t264 _ A12.out).mono ?_);rintro e w26 ⟨rfl,hb⟩;refine ⟨_,rfl,?_⟩;have n0_:=Aside0.mk (Kd.R_below (by (with_reducible repeat (first | apply Kd.R_alloc | apply Kd.R_drewN | apply Kd.R_drew));exact HO_8.out) hb);have n1_:=Aside0.mk (below_step (by repeat (first | (with_reducible first | exact HB.out | apply below_alloc | apply pw_below_drewN | apply below_drew1) | exact HB.out)) hb);clear HO_8;clear HB;have HO_8:=n0_;have HB:=n1_;clear n0_ n1_;(try clear hb);(try clear hb2);(try clear hk);(try clear hi)))
            go_ret2
            exact ⟨_,by first | rfl | (simp [errW_none,errW_some] <;> rfl) | (simp [*,errW_none,errW_some] <;> rfl) | (simp [errW_none,errW_some];exact isEmpty_bne _),by first | exact Kd.R_nil _ _ _ _ _ | exact Kd.N_nil _ _ _ _ _ | exact Kd.V_nil _ _ _ _ _ | exact Kd.Q_nil _ _ _ _ _ | exact Kd.S_nil _ _ _ _ _,by repeat (first | (with_reducible first | exact HB.out | apply below_alloc | apply pw_below_drewN | apply below_drew1) | exact HB.out)⟩
           ·rw [if_neg c22] at H
            have c22b0 : decide (1000 < t259) = false:=decide_eq_false c22
            clear c22
            by_cases c27 : x8_1.length < 2932031007402
            ·rw [if_pos c27] at H
             have LMc27:=Aside0.mk c27
             clear c27
             obtain ⟨y265,hy265⟩ : ∃ y_ : List (S49),y_ = (x8_1 ++ [(⟨t253,wrap64 (t256),wrap64 (IntKind.u64.wrap (Int.tdiv t259 2)),t262,((Int.tmod t259 2) == 1)⟩ : S49)]):=⟨_,rfl⟩
             replace H : (thwartref05_Read.l0 k1 a0 t263 y265) = some (r1,r2):=by first | (rw [hy265];with_reducible exact H) | (have H2_:=(Option.bind_some _ _).symm.trans H;rw [hy265];with_reducible exact H2_) | (have H2_:=(Option.bind_some _ _).symm.trans H;with_reducible exact H2_) | with_reducible exact H | (rw [hy265];exact H) | exact H
             have Ny265:=Aside0.mk hy265
             clear hy265
             have H' := Aside0.mk H
             clear H
             go_wp2_with (first | ((with_reducible refine gate_callee (f:=37) rfl ?_);refine goesL_ (some 43) rfl rfl Try.func37 (by kernel_rfl) rfl #[.string x4_1] rfl (by (try simp only [List.map_toArray,List.map_cons,List.map_nil]);first | done | rfl | (simp only [List.length_drop,List.length_take];rfl)) ?_;(with_reducible refine (thwartref01_OfText.calls k1 x4_1 t253 t254 t255 _ A9.out).mono ?_);rintro e w28 ⟨rfl,hb⟩;refine ⟨_,rfl,?_⟩;have n0_:=Aside0.mk (Kd.R_below (by (with_reducible repeat (first | apply Kd.R_alloc | apply Kd.R_drewN | apply Kd.R_drew));exact HO_8.out) hb);have n1_:=Aside0.mk (below_step (by repeat (first | (with_reducible first | exact HB.out | apply below_alloc | apply pw_below_drewN | apply below_drew1) | exact HB.out)) hb);clear HO_8;clear HB;have HO_8:=n0_;have HB:=n1_;clear n0_ n1_;(try clear hb);(try clear hb2);(try clear hk);(try clear hi)) | ((with_reducible refine gate_callee (f:=36) rfl ?_);refine goesL_ (some 49) rfl rfl Try.func36 (by kernel_rfl) rfl #[.string t254] rfl (by (try simp only [List.map_toArray,List.map_cons,List.map_nil]);first | done | rfl | (simp only [List.length_drop,List.length_take];rfl)) ?_;(with_reducible refine (thwartref01_Take.calls k1 t254 t256 t257 t258 _ A10.out).mono ?_);rintro e w29 ⟨rfl,hb⟩;refine ⟨_,rfl,?_⟩;have n0_:=Aside0.mk (Kd.R_below (by (with_reducible repeat (first | apply Kd.R_alloc | apply Kd.R_drewN | apply Kd.R_drew));exact HO_8.out) hb);have n1_:=Aside0.mk (below_step (by repeat (first | (with_reducible first | exact HB.out | apply below_alloc | apply pw_below_drewN | apply below_drew1) | exact HB.out)) hb);clear HO_8;clear HB;have HO_8:=n0_;have HB:=n1_;clear n0_ n1_;(try clear hb);(try clear hb2);(try clear hk);(try clear hi)) | ((with_reducible refine gate_callee (f:=36) rfl ?_);refine goesL_ (some 55) rfl rfl Try.func36 (by kernel_rfl) rfl #[.string t257] rfl (by (try simp only [List.map_toArray,List.map_cons,List.map_nil]);first | done | rfl | (simp only [List.length_drop,List.length_take];rfl)) ?_;(with_reducible refine (thwartref01_Take.calls k1 t257 t259 t260 t261 _ A11.out).mono ?_);rintro e w30 ⟨rfl,hb⟩;refine ⟨_,rfl,?_⟩;have n0_:=Aside0.mk (Kd.R_below (by (with_reducible repeat (first | apply Kd.R_alloc | apply Kd.R_drewN | apply Kd.R_drew));exact HO_8.out) hb);have n1_:=Aside0.mk (below_step (by repeat (first | (with_reducible first | exact HB.out | apply below_alloc | apply pw_below_drewN | apply below_drew1) | exact HB.out)) hb);clear HO_8;clear HB;have HO_8:=n0_;have HB:=n1_;clear n0_ n1_;(try clear hb);(try clear hb2);(try clear hk);(try clear hi)) | ((with_reducible refine gate_callee (f:=36) rfl ?_);refine goesL_ (some 61) rfl rfl Try.func36 (by kernel_rfl) rfl #[.string t260] rfl (by (try simp only [List.map_toArray,List.map_cons,List.map_nil]);first | done | rfl | (simp only [List.length_drop,List.length_take];rfl)) ?_;(with_reducible refine (thwartref01_Take.calls k1 t260 t262 t263 t264 _ A12.out).mono ?_);rintro e w31 ⟨rfl,hb⟩;refine ⟨_,rfl,?_⟩;have n0_:=Aside0.mk (Kd.R_below (by (with_reducible repeat (first | apply Kd.R_alloc | apply Kd.R_drewN | apply Kd.R_drew));exact HO_8.out) hb);have n1_:=Aside0.mk (below_step (by repeat (first | (with_reducible first | exact HB.out | apply below_alloc | apply pw_below_drewN | apply below_drew1) | exact HB.out)) hb);clear HO_8;clear HB;have HO_8:=n0_;have HB:=n1_;clear n0_ n1_;(try clear hb);(try clear hb2);(try clear hk);(try clear hi)) | ((with_reducible refine gate_builtin (b := .append) (xs := #[.tmp 87,.tmp 99]) rfl ?_);at_builtin;refine Kd.R_append k49 (w0:=w) w.heap.size rfl (.tmp 87) (.tmp 99) 29 49 (.agg #[(.string ⟨#[]⟩),(.int .i64 0),(.int .i64 0),(.int .u64 0),(.bool false)]) 48 rfl Try.underlying29 info49 rfl (by decide) (by omega) u8 x8_1 (⟨t253,wrap64 (t256),wrap64 (IntKind.u64.wrap (Int.tdiv t259 2)),t262,((Int.tmod t259 2) == 1)⟩ : S49) [.string t253,.int .i64 (wrap64 (t256)),.int .i64 (wrap64 (IntKind.u64.wrap (Int.tdiv t259 2))),.int .u64 t262,.bool ((Int.tmod t259 2) == 1)] (fun _ => True) (fun _ => False) rfl rfl ?aP (fun _ hk => hk.elim) ?aF ?aO ?aB ?aS ?aL ?_;(case aP => exact k49_mkM _ _ _ (⟨t253,wrap64 (t256),wrap64 (IntKind.u64.wrap (Int.tdiv t259 2)),t262,((Int.tmod t259 2) == 1)⟩ : S49));(case aB => exact (by repeat (first | (with_reducible first | exact HB.out | apply below_alloc | apply pw_below_drewN | apply below_drew1) | exact HB.out)));(case aF => exact (fun _ _ => trivial));(case aO => exact (by (with_reducible repeat (first | apply Kd.R_alloc | apply Kd.R_drewN | apply Kd.R_drew));exact HO_8.out));(case aS => exact (below_size (by repeat (first | (with_reducible first | exact HB.out | apply below_alloc | apply pw_below_drewN | apply below_drew1) | exact HB.out))));(case aL => have:=LMc27.out;omega);intro v266 w32 ho hb hg hat;rw [← Ny265.out] at ho;have n0_:=Aside0.mk (hb);have n1_:=Aside0.mk (ho);clear HB;clear HO_8;have HB:=n0_;have HO267:=n1_;clear n0_ n1_;clear ho hb hg hat))
             go_roundg k1
             case measure => have:=HK1.out;omega
             case rel => exact ⟨(t263),(y265),(by first | rfl | (simp;done) | (simp [*];done)),H',⟨by have:=HK1.out;omega⟩,⟨by (with_reducible repeat (first | apply Kd.R_alloc | apply Kd.R_drewN | apply Kd.R_drew));exact HO267.out⟩,⟨by repeat (first | (with_reducible first | exact HB.out | apply below_alloc | apply pw_below_drewN | apply below_drew1) | exact HB.out)⟩⟩
            ·rw [if_neg c27] at H
             exact absurd H (by simp)
         ·rw [if_neg c16] at H
          have c16b0 : (t264 == 0) = false:=beq_eq_false_iff_ne.mpr c16
          have c16b1 : (t264 != 0) = true:=bne_iff_ne.mpr c16
          simp only [Option.some.injEq,Prod.mk.injEq] at H
          obtain ⟨rfl,rfl⟩:=H
          go_wp2_with (first | ((with_reducible refine gate_callee (f:=37) rfl ?_);refine goesL_ (some 43) rfl rfl Try.func37 (by kernel_rfl) rfl #[.string x4_1] rfl (by (try simp only [List.map_toArray,List.map_cons,List.map_nil]);first | done | rfl | (simp only [List.length_drop,List.length_take];rfl)) ?_;(with_reducible refine (thwartref01_OfText.calls k1 x4_1 t253 t254 t255 _ A9.out).mono ?_);rintro e w33 ⟨rfl,hb⟩;refine ⟨_,rfl,?_⟩;have n0_:=Aside0.mk (Kd.R_below (by (with_reducible repeat (first | apply Kd.R_alloc | apply Kd.R_drewN | apply Kd.R_drew));exact HO_8.out) hb);have n1_:=Aside0.mk (below_step (by repeat (first | (with_reducible first | exact HB.out | apply below_alloc | apply pw_below_drewN | apply below_drew1) | exact HB.out)) hb);clear HO_8;clear HB;have HO_8:=n0_;have HB:=n1_;clear n0_ n1_;(try clear hb);(try clear hb2);(try clear hk);(try clear hi)) | ((with_reducible refine gate_callee (f:=36) rfl ?_);refine goesL_ (some 49) rfl rfl Try.func36 (by kernel_rfl) rfl #[.string t254] rfl (by (try simp only [List.map_toArray,List.map_cons,List.map_nil]);first | done | rfl | (simp only [List.length_drop,List.length_take];rfl)) ?_;(with_reducible refine (thwartref01_Take.calls k1 t254 t256 t257 t258 _ A10.out).mono ?_);rintro e w34 ⟨rfl,hb⟩;refine ⟨_,rfl,?_⟩;have n0_:=Aside0.mk (Kd.R_below (by (with_reducible repeat (first | apply Kd.R_alloc | apply Kd.R_drewN | apply Kd.R_drew));exact HO_8.out) hb);have n1_:=Aside0.mk (below_step (by repeat (first | (with_reducible first | exact HB.out | apply below_alloc | apply pw_below_drewN | apply below_drew1) | exact HB.out)) hb);clear HO_8;clear HB;have HO_8:=n0_;have HB:=n1_;clear n0_ n1_;(try clear hb);(try clear hb2);(try clear hk);(try clear hi)) | ((with_reducible refine gate_callee (f:=36) rfl ?_);refine goesL_ (some 55) rfl rfl Try.func36 (by kernel_rfl) rfl #[.string t257] rfl (by (try simp only [List.map_toArray,List.map_cons,List.map_nil]);first | done | rfl | (simp only [List.length_drop,List.length_take];rfl)) ?_;(with_reducible refine (thwartref01_Take.calls k1 t257 t259 t260 t261 _ A11.out).mono ?_);rintro e w35 ⟨rfl,hb⟩;refine ⟨_,rfl,?_⟩;have n0_:=Aside0.mk (Kd.R_below (by (with_reducible repeat (first | apply Kd.R_alloc | apply Kd.R_drewN | apply Kd.R_drew));exact HO_8.out) hb);have n1_:=Aside0.mk (below_step (by repeat (first | (with_reducible first | exact HB.out | apply below_alloc | apply pw_below_drewN | apply below_drew1) | exact HB.out)) hb);clear HO_8;clear HB;have HO_8:=n0_;have HB:=n1_;clear n0_ n1_;(try clear hb);(try clear hb2);(try clear hk);(try clear hi)) | ((with_reducible refine gate_callee (f:=36) rfl ?_);refine goesL_ (some 61) rfl rfl Try.func36 (by kernel_rfl) rfl #[.string t260] rfl (by (try simp only [List.map_toArray,List.map_cons,List.map_nil]);first | done | rfl | (simp only [List.length_drop,List.length_take];rfl)) ?_;(with_reducible refine (thwartref01_Take.calls k1 t260 t262 t263 t264 _ A12.out).mono ?_);rintro e w36 ⟨rfl,hb⟩;refine ⟨_,rfl,?_⟩;have n0_:=Aside0.mk (Kd.R_below (by (with_reducible repeat (first | apply Kd.R_alloc | apply Kd.R_drewN | apply Kd.R_drew));exact HO_8.out) hb);have n1_:=Aside0.mk (below_step (by repeat (first | (with_reducible first | exact HB.out | apply below_alloc | apply pw_below_drewN | apply below_drew1) | exact HB.out)) hb);clear HO_8;clear HB;have HO_8:=n0_;have HB:=n1_;clear n0_ n1_;(try clear hb);(try clear hb2);(try clear hk);(try clear hi)))
          go_ret2
          exact ⟨_,by first | rfl | (simp [errW_none,errW_some] <;> rfl) | (simp [*,errW_none,errW_some] <;> rfl) | (simp [errW_none,errW_some];exact isEmpty_bne _),by first | exact Kd.R_nil _ _ _ _ _ | exact Kd.N_nil _ _ _ _ _ | exact Kd.V_nil _ _ _ _ _ | exact Kd.Q_nil _ _ _ _ _ | exact Kd.S_nil _ _ _ _ _,by repeat (first | (with_reducible first | exact HB.out | apply below_alloc | apply pw_below_drewN | apply below_drew1) | exact HB.out)⟩
        ·rw [if_neg c15] at H
         have c15b0 : (t261 == 0) = false:=beq_eq_false_iff_ne.mpr c15
         have c15b1 : (t261 != 0) = true:=bne_iff_ne.mpr c15
         simp only [Option.some.injEq,Prod.mk.injEq] at H
         obtain ⟨rfl,rfl⟩:=H
         go_wp2_with (first | ((with_reducible refine gate_callee (f:=37) rfl ?_);refine goesL_ (some 43) rfl rfl Try.func37 (by kernel_rfl) rfl #[.string x4_1] rfl (by (try simp only [List.map_toArray,List.map_cons,List.map_nil]);first | done | rfl | (simp only [List.length_drop,List.length_take];rfl)) ?_;(with_reducible refine (thwartref01_OfText.calls k1 x4_1 t253 t254 t255 _ A9.out).mono ?_);rintro e w37 ⟨rfl,hb⟩;refine ⟨_,rfl,?_⟩;have n0_:=Aside0.mk (Kd.R_below (by (with_reducible repeat (first | apply Kd.R_alloc | apply Kd.R_drewN | apply Kd.R_drew));exact HO_8.out) hb);have n1_:=Aside0.mk (below_step (by repeat (first | (with_reducible first | exact HB.out | apply below_alloc | apply pw_below_drewN | apply below_drew1) | exact HB.out)) hb);clear HO_8;clear HB;have HO_8:=n0_;have HB:=n1_;clear n0_ n1_;(try clear hb);(try clear hb2);(try clear hk);(try clear hi)) | ((with_reducible refine gate_callee (f:=36) rfl ?_);refine goesL_ (some 49) rfl rfl Try.func36 (by kernel_rfl) rfl #[.string t254] rfl (by (try simp only [List.map_toArray,List.map_cons,List.map_nil]);first | done | rfl | (simp only [List.length_drop,List.length_take];rfl)) ?_;(with_reducible refine (thwartref01_Take.calls k1 t254 t256 t257 t258 _ A10.out).mono ?_);rintro e w38 ⟨rfl,hb⟩;refine ⟨_,rfl,?_⟩;have n0_:=Aside0.mk (Kd.R_below (by (with_reducible repeat (first | apply Kd.R_alloc | apply Kd.R_drewN | apply Kd.R_drew));exact HO_8.out) hb);have n1_:=Aside0.mk (below_step (by repeat (first | (with_reducible first | exact HB.out | apply below_alloc | apply pw_below_drewN | apply below_drew1) | exact HB.out)) hb);clear HO_8;clear HB;have HO_8:=n0_;have HB:=n1_;clear n0_ n1_;(try clear hb);(try clear hb2);(try clear hk);(try clear hi)) | ((with_reducible refine gate_callee (f:=36) rfl ?_);refine goesL_ (some 55) rfl rfl Try.func36 (by kernel_rfl) rfl #[.string t257] rfl (by (try simp only [List.map_toArray,List.map_cons,List.map_nil]);first | done | rfl | (simp only [List.length_drop,List.length_take];rfl)) ?_;(with_reducible refine (thwartref01_Take.calls k1 t257 t259 t260 t261 _ A11.out).mono ?_);rintro e w39 ⟨rfl,hb⟩;refine ⟨_,rfl,?_⟩;have n0_:=Aside0.mk (Kd.R_below (by (with_reducible repeat (first | apply Kd.R_alloc | apply Kd.R_drewN | apply Kd.R_drew));exact HO_8.out) hb);have n1_:=Aside0.mk (below_step (by repeat (first | (with_reducible first | exact HB.out | apply below_alloc | apply pw_below_drewN | apply below_drew1) | exact HB.out)) hb);clear HO_8;clear HB;have HO_8:=n0_;have HB:=n1_;clear n0_ n1_;(try clear hb);(try clear hb2);(try clear hk);(try clear hi)) | ((with_reducible refine gate_callee (f:=36) rfl ?_);refine goesL_ (some 61) rfl rfl Try.func36 (by kernel_rfl) rfl #[.string t260] rfl (by (try simp only [List.map_toArray,List.map_cons,List.map_nil]);first | done | rfl | (simp only [List.length_drop,List.length_take];rfl)) ?_;(with_reducible refine (thwartref01_Take.calls k1 t260 t262 t263 t264 _ A12.out).mono ?_);rintro e w40 ⟨rfl,hb⟩;refine ⟨_,rfl,?_⟩;have n0_:=Aside0.mk (Kd.R_below (by (with_reducible repeat (first | apply Kd.R_alloc | apply Kd.R_drewN | apply Kd.R_drew));exact HO_8.out) hb);have n1_:=Aside0.mk (below_step (by repeat (first | (with_reducible first | exact HB.out | apply below_alloc | apply pw_below_drewN | apply below_drew1) | exact HB.out)) hb);clear HO_8;clear HB;have HO_8:=n0_;have HB:=n1_;clear n0_ n1_;(try clear hb);(try clear hb2);(try clear hk);(try clear hi)))
         go_ret2
         exact ⟨_,by first | rfl | (simp [errW_none,errW_some] <;> rfl) | (simp [*,errW_none,errW_some] <;> rfl) | (simp [errW_none,errW_some];exact isEmpty_bne _),by first | exact Kd.R_nil _ _ _ _ _ | exact Kd.N_nil _ _ _ _ _ | exact Kd.V_nil _ _ _ _ _ | exact Kd.Q_nil _ _ _ _ _ | exact Kd.S_nil _ _ _ _ _,by repeat (first | (with_reducible first | exact HB.out | apply below_alloc | apply pw_below_drewN | apply below_drew1) | exact HB.out)⟩
       ·rw [if_neg c14] at H
        have c14b0 : (t258 == 0) = false:=beq_eq_false_iff_ne.mpr c14
        have c14b1 : (t258 != 0) = true:=bne_iff_ne.mpr c14
        simp only [Option.some.injEq,Prod.mk.injEq] at H
        obtain ⟨rfl,rfl⟩:=H
        go_wp2_with (first | ((with_reducible refine gate_callee (f:=37) rfl ?_);refine goesL_ (some 43) rfl rfl Try.func37 (by kernel_rfl) rfl #[.string x4_1] rfl (by (try simp only [List.map_toArray,List.map_cons,List.map_nil]);first | done | rfl | (simp only [List.length_drop,List.length_take];rfl)) ?_;(with_reducible refine (thwartref01_OfText.calls k1 x4_1 t253 t254 t255 _ A9.out).mono ?_);rintro e w41 ⟨rfl,hb⟩;refine ⟨_,rfl,?_⟩;have n0_:=Aside0.mk (Kd.R_below (by (with_reducible repeat (first | apply Kd.R_alloc | apply Kd.R_drewN | apply Kd.R_drew));exact HO_8.out) hb);have n1_:=Aside0.mk (below_step (by repeat (first | (with_reducible first | exact HB.out | apply below_alloc | apply pw_below_drewN | apply below_drew1) | exact HB.out)) hb);clear HO_8;clear HB;have HO_8:=n0_;have HB:=n1_;clear n0_ n1_;(try clear hb);(try clear hb2);(try clear hk);(try clear hi)) | ((with_reducible refine gate_callee (f:=36) rfl ?_);refine goesL_ (some 49) rfl rfl Try.func36 (by kernel_rfl) rfl #[.string t254] rfl (by (try simp only [List.map_toArray,List.map_cons,List.map_nil]);first | done | rfl | (simp only [List.length_drop,List.length_take];rfl)) ?_;(with_reducible refine (thwartref01_Take.calls k1 t254 t256 t257 t258 _ A10.out).mono ?_);rintro e w42 ⟨rfl,hb⟩;refine ⟨_,rfl,?_⟩;have n0_:=Aside0.mk (Kd.R_below (by (with_reducible repeat (first | apply Kd.R_alloc | apply Kd.R_drewN | apply Kd.R_drew));exact HO_8.out) hb);have n1_:=Aside0.mk (below_step (by repeat (first | (with_reducible first | exact HB.out | apply below_alloc | apply pw_below_drewN | apply below_drew1) | exact HB.out)) hb);clear HO_8;clear HB;have HO_8:=n0_;have HB:=n1_;clear n0_ n1_;(try clear hb);(try clear hb2);(try clear hk);(try clear hi)) | ((with_reducible refine gate_callee (f:=36) rfl ?_);refine goesL_ (some 55) rfl rfl Try.func36 (by kernel_rfl) rfl #[.string t257] rfl (by (try simp only [List.map_toArray,List.map_cons,List.map_nil]);first | done | rfl | (simp only [List.length_drop,List.length_take];rfl)) ?_;(with_reducible refine (thwartref01_Take.calls k1 t257 t259 t260 t261 _ A11.out).mono ?_);rintro e w43 ⟨rfl,hb⟩;refine ⟨_,rfl,?_⟩;have n0_:=Aside0.mk (Kd.R_below (by (with_reducible repeat (first | apply Kd.R_alloc | apply Kd.R_drewN | apply Kd.R_drew));exact HO_8.out) hb);have n1_:=Aside0.mk (below_step (by repeat (first | (with_reducible first | exact HB.out | apply below_alloc | apply pw_below_drewN | apply below_drew1) | exact HB.out)) hb);clear HO_8;clear HB;have HO_8:=n0_;have HB:=n1_;clear n0_ n1_;(try clear hb);(try clear hb2);(try clear hk);(try clear hi)) | ((with_reducible refine gate_callee (f:=36) rfl ?_);refine goesL_ (some 61) rfl rfl Try.func36 (by kernel_rfl) rfl #[.string t260] rfl (by (try simp only [List.map_toArray,List.map_cons,List.map_nil]);first | done | rfl | (simp only [List.length_drop,List.length_take];rfl)) ?_;(with_reducible refine (thwartref01_Take.calls k1 t260 t262 t263 t264 _ A12.out).mono ?_);rintro e w44 ⟨rfl,hb⟩;refine ⟨_,rfl,?_⟩;have n0_:=Aside0.mk (Kd.R_below (by (with_reducible repeat (first | apply Kd.R_alloc | apply Kd.R_drewN | apply Kd.R_drew));exact HO_8.out) hb);have n1_:=Aside0.mk (below_step (by repeat (first | (with_reducible first | exact HB.out | apply below_alloc | apply pw_below_drewN | apply below_drew1) | exact HB.out)) hb);clear HO_8;clear HB;have HO_8:=n0_;have HB:=n1_;clear n0_ n1_;(try clear hb);(try clear hb2);(try clear hk);(try clear hi)))
        go_ret2
        exact ⟨_,by first | rfl | (simp [errW_none,errW_some] <;> rfl) | (simp [*,errW_none,errW_some] <;> rfl) | (simp [errW_none,errW_some];exact isEmpty_bne _),by first | exact Kd.R_nil _ _ _ _ _ | exact Kd.N_nil _ _ _ _ _ | exact Kd.V_nil _ _ _ _ _ | exact Kd.Q_nil _ _ _ _ _ | exact Kd.S_nil _ _ _ _ _,by repeat (first | (with_reducible first | exact HB.out | apply below_alloc | apply pw_below_drewN | apply below_drew1) | exact HB.out)⟩
      ·rw [if_neg c13] at H
       have c13b0 : (t255 == 0) = false:=beq_eq_false_iff_ne.mpr c13
       have c13b1 : (t255 != 0) = true:=bne_iff_ne.mpr c13
       simp only [Option.some.injEq,Prod.mk.injEq] at H
       obtain ⟨rfl,rfl⟩:=H
       go_wp2_with (first | ((with_reducible refine gate_callee (f:=37) rfl ?_);refine goesL_ (some 43) rfl rfl Try.func37 (by kernel_rfl) rfl #[.string x4_1] rfl (by (try simp only [List.map_toArray,List.map_cons,List.map_nil]);first | done | rfl | (simp only [List.length_drop,List.length_take];rfl)) ?_;(with_reducible refine (thwartref01_OfText.calls k1 x4_1 t253 t254 t255 _ A9.out).mono ?_);rintro e w45 ⟨rfl,hb⟩;refine ⟨_,rfl,?_⟩;have n0_:=Aside0.mk (Kd.R_below (by (with_reducible repeat (first | apply Kd.R_alloc | apply Kd.R_drewN | apply Kd.R_drew));exact HO_8.out) hb);have n1_:=Aside0.mk (below_step (by repeat (first | (with_reducible first | exact HB.out | apply below_alloc | apply pw_below_drewN | apply below_drew1) | exact HB.out)) hb);clear HO_8;clear HB;have HO_8:=n0_;have HB:=n1_;clear n0_ n1_;(try clear hb);(try clear hb2);(try clear hk);(try clear hi)) | ((with_reducible refine gate_callee (f:=36) rfl ?_);refine goesL_ (some 49) rfl rfl Try.func36 (by kernel_rfl) rfl #[.string t254] rfl (by (try simp only [List.map_toArray,List.map_cons,List.map_nil]);first | done | rfl | (simp only [List.length_drop,List.length_take];rfl)) ?_;(with_reducible refine (thwartref01_Take.calls k1 t254 t256 t257 t258 _ A10.out).mono ?_);rintro e w46 ⟨rfl,hb⟩;refine ⟨_,rfl,?_⟩;have n0_:=Aside0.mk (Kd.R_below (by (with_reducible repeat (first | apply Kd.R_alloc | apply Kd.R_drewN | apply Kd.R_drew));exact HO_8.out) hb);have n1_:=Aside0.mk (below_step (by repeat (first | (with_reducible first | exact HB.out | apply below_alloc | apply pw_below_drewN | apply below_drew1) | exact HB.out)) hb);clear HO_8;clear HB;have HO_8:=n0_;have HB:=n1_;clear n0_ n1_;(try clear hb);(try clear hb2);(try clear hk);(try clear hi)) | ((with_reducible refine gate_callee (f:=36) rfl ?_);refine goesL_ (some 55) rfl rfl Try.func36 (by kernel_rfl) rfl #[.string t257] rfl (by (try simp only [List.map_toArray,List.map_cons,List.map_nil]);first | done | rfl | (simp only [List.length_drop,List.length_take];rfl)) ?_;(with_reducible refine (thwartref01_Take.calls k1 t257 t259 t260 t261 _ A11.out).mono ?_);rintro e w47 ⟨rfl,hb⟩;refine ⟨_,rfl,?_⟩;have n0_:=Aside0.mk (Kd.R_below (by (with_reducible repeat (first | apply Kd.R_alloc | apply Kd.R_drewN | apply Kd.R_drew));exact HO_8.out) hb);have n1_:=Aside0.mk (below_step (by repeat (first | (with_reducible first | exact HB.out | apply below_alloc | apply pw_below_drewN | apply below_drew1) | exact HB.out)) hb);clear HO_8;clear HB;have HO_8:=n0_;have HB:=n1_;clear n0_ n1_;(try clear hb);(try clear hb2);(try clear hk);(try clear hi)) | ((with_reducible refine gate_callee (f:=36) rfl ?_);refine goesL_ (some 61) rfl rfl Try.func36 (by kernel_rfl) rfl #[.string t260] rfl (by (try simp only [List.map_toArray,List.map_cons,List.map_nil]);first | done | rfl | (simp only [List.length_drop,List.length_take];rfl)) ?_;(with_reducible refine (thwartref01_Take.calls k1 t260 t262 t263 t264 _ A12.out).mono ?_);rintro e w48 ⟨rfl,hb⟩;refine ⟨_,rfl,?_⟩;have n0_:=Aside0.mk (Kd.R_below (by (with_reducible repeat (first | apply Kd.R_alloc | apply Kd.R_drewN | apply Kd.R_drew));exact HO_8.out) hb);have n1_:=Aside0.mk (below_step (by repeat (first | (with_reducible first | exact HB.out | apply below_alloc | apply pw_below_drewN | apply below_drew1) | exact HB.out)) hb);clear HO_8;clear HB;have HO_8:=n0_;have HB:=n1_;clear n0_ n1_;(try clear hb);(try clear hb2);(try clear hk);(try clear hi)))
       go_ret2
       exact ⟨_,by first | rfl | (simp [errW_none,errW_some] <;> rfl) | (simp [*,errW_none,errW_some] <;> rfl) | (simp [errW_none,errW_some];exact isEmpty_bne _),by first | exact Kd.R_nil _ _ _ _ _ | exact Kd.N_nil _ _ _ _ _ | exact Kd.V_nil _ _ _ _ _ | exact Kd.Q_nil _ _ _ _ _ | exact Kd.S_nil _ _ _ _ _,by repeat (first | (with_reducible first | exact HB.out | apply below_alloc | apply pw_below_drewN | apply below_drew1) | exact HB.out)⟩
     ·rw [if_neg c8] at H
      have c8b0 : decide (0 < (x4_1.size : Int)) = false:=decide_eq_false c8
      have c8b1 : decide (0 < x4_1.size) = false:=decide_eq_false (by omega)
      clear c8
      replace H:=Option.bind_eq_some_iff.mp H
      obtain ⟨⟨t251,t252⟩,A490,H⟩:=H
      replace H : (if t252 = 0 then (if t251.toList = a0.toList then (some (x8_1,0)) else (some (([] : List (S49)),2))) else (some (([] : List (S49)),2))) = some (r1,r2):=H
      have A49:=Aside0.mk A490
      clear A490
      by_cases c50 : t252 = 0
      ·rw [if_pos c50] at H
       have c50b0 : (t252 == 0) = true:=beq_iff_eq.mpr c50
       have c50b1 : (t252 != 0) = false:=bne_eq_false_iff_eq.mpr c50
       clear c50
       by_cases c51 : t251.toList = a0.toList
       ·rw [if_pos c51] at H
        have c51b0 : (t251.toList == a0.toList) = true:=beq_iff_eq.mpr c51
        have c51b1 : (t251.toList != a0.toList) = false:=bne_eq_false_iff_eq.mpr c51
        clear c51
        simp only [Option.some.injEq,Prod.mk.injEq] at H
        obtain ⟨rfl,rfl⟩:=H
        obtain ⟨Ao52,co52,eo52⟩:=Kd.R_slice HO_8.out
        subst eo52
        go_wp2_with (first | ((with_reducible refine gate_callee (f:=10) rfl ?_);refine goesL_ (some 104) rfl rfl Try.func10 (by kernel_rfl) rfl #[.slice Ao52 x8_1.length co52] rfl (by (try simp only [List.map_toArray,List.map_cons,List.map_nil]);first | done | rfl | (simp only [List.length_drop,List.length_take];rfl)) ?_;(with_reducible refine (thwartref05_Bytes.calls k1 _ _ x8_1 t251 t252 _ ?side1 ?side2 A49.out).mono ?_);(case side1 => repeat (first | exact (Kd.R_reads' HO_8.out).2.2 | (with_reducible refine Kd.C_alloc ?_ _) | (with_reducible refine Kd.C_drewN ?_ _) | (with_reducible refine Kd.C_drew ?_)));(case side2 => exact (Kd.R_reads' HO_8.out).2.1);rintro e w53 ⟨rfl,hb⟩;refine ⟨_,rfl,?_⟩;have n0_:=Aside0.mk (Kd.R_below (by (with_reducible repeat (first | apply Kd.R_alloc | apply Kd.R_drewN | apply Kd.R_drew));exact HO_8.out) hb);have n1_:=Aside0.mk (below_step (by repeat (first | (with_reducible first | exact HB.out | apply below_alloc | apply pw_below_drewN | apply below_drew1) | exact HB.out)) hb);clear HO_8;clear HB;have HO_8:=n0_;have HB:=n1_;clear n0_ n1_;(try clear hb);(try clear hb2);(try clear hk);(try clear hi)))
        go_ret2
        exact ⟨_,by first | rfl | (simp [errW_none,errW_some] <;> rfl) | (simp [*,errW_none,errW_some] <;> rfl) | (simp [errW_none,errW_some];exact isEmpty_bne _),by (with_reducible repeat (first | apply Kd.R_alloc | apply Kd.R_drewN | apply Kd.R_drew));exact HO_8.out,by repeat (first | (with_reducible first | exact HB.out | apply below_alloc | apply pw_below_drewN | apply below_drew1) | exact HB.out)⟩
       ·rw [if_neg c51] at H
        have c51b0 : (t251.toList == a0.toList) = false:=beq_eq_false_iff_ne.mpr c51
        have c51b1 : (t251.toList != a0.toList) = true:=bne_iff_ne.mpr c51
        simp only [Option.some.injEq,Prod.mk.injEq] at H
        obtain ⟨rfl,rfl⟩:=H
        obtain ⟨Ao54,co54,eo54⟩:=Kd.R_slice HO_8.out
        subst eo54
        go_wp2_with (first | ((with_reducible refine gate_callee (f:=10) rfl ?_);refine goesL_ (some 104) rfl rfl Try.func10 (by kernel_rfl) rfl #[.slice Ao54 x8_1.length co54] rfl (by (try simp only [List.map_toArray,List.map_cons,List.map_nil]);first | done | rfl | (simp only [List.length_drop,List.length_take];rfl)) ?_;(with_reducible refine (thwartref05_Bytes.calls k1 _ _ x8_1 t251 t252 _ ?side1 ?side2 A49.out).mono ?_);(case side1 => repeat (first | exact (Kd.R_reads' HO_8.out).2.2 | (with_reducible refine Kd.C_alloc ?_ _) | (with_reducible refine Kd.C_drewN ?_ _) | (with_reducible refine Kd.C_drew ?_)));(case side2 => exact (Kd.R_reads' HO_8.out).2.1);rintro e w55 ⟨rfl,hb⟩;refine ⟨_,rfl,?_⟩;have n0_:=Aside0.mk (Kd.R_below (by (with_reducible repeat (first | apply Kd.R_alloc | apply Kd.R_drewN | apply Kd.R_drew));exact HO_8.out) hb);have n1_:=Aside0.mk (below_step (by repeat (first | (with_reducible first | exact HB.out | apply below_alloc | apply pw_below_drewN | apply below_drew1) | exact HB.out)) hb);clear HO_8;clear HB;have HO_8:=n0_;have HB:=n1_;clear n0_ n1_;(try clear hb);(try clear hb2);(try clear hk);(try clear hi)))
        go_ret2
        exact ⟨_,by first | rfl | (simp [errW_none,errW_some] <;> rfl) | (simp [*,errW_none,errW_some] <;> rfl) | (simp [errW_none,errW_some];exact isEmpty_bne _),by first | exact Kd.R_nil _ _ _ _ _ | exact Kd.N_nil _ _ _ _ _ | exact Kd.V_nil _ _ _ _ _ | exact Kd.Q_nil _ _ _ _ _ | exact Kd.S_nil _ _ _ _ _,by repeat (first | (with_reducible first | exact HB.out | apply below_alloc | apply pw_below_drewN | apply below_drew1) | exact HB.out)⟩
      ·rw [if_neg c50] at H
       have c50b0 : (t252 == 0) = false:=beq_eq_false_iff_ne.mpr c50
       have c50b1 : (t252 != 0) = true:=bne_iff_ne.mpr c50
       simp only [Option.some.injEq,Prod.mk.injEq] at H
       obtain ⟨rfl,rfl⟩:=H
       obtain ⟨Ao56,co56,eo56⟩:=Kd.R_slice HO_8.out
       subst eo56
       go_wp2_with (first | ((with_reducible refine gate_callee (f:=10) rfl ?_);refine goesL_ (some 104) rfl rfl Try.func10 (by kernel_rfl) rfl #[.slice Ao56 x8_1.length co56] rfl (by (try simp only [List.map_toArray,List.map_cons,List.map_nil]);first | done | rfl | (simp only [List.length_drop,List.length_take];rfl)) ?_;(with_reducible refine (thwartref05_Bytes.calls k1 _ _ x8_1 t251 t252 _ ?side1 ?side2 A49.out).mono ?_);(case side1 => repeat (first | exact (Kd.R_reads' HO_8.out).2.2 | (with_reducible refine Kd.C_alloc ?_ _) | (with_reducible refine Kd.C_drewN ?_ _) | (with_reducible refine Kd.C_drew ?_)));(case side2 => exact (Kd.R_reads' HO_8.out).2.1);rintro e w57 ⟨rfl,hb⟩;refine ⟨_,rfl,?_⟩;have n0_:=Aside0.mk (Kd.R_below (by (with_reducible repeat (first | apply Kd.R_alloc | apply Kd.R_drewN | apply Kd.R_drew));exact HO_8.out) hb);have n1_:=Aside0.mk (below_step (by repeat (first | (with_reducible first | exact HB.out | apply below_alloc | apply pw_below_drewN | apply below_drew1) | exact HB.out)) hb);clear HO_8;clear HB;have HO_8:=n0_;have HB:=n1_;clear n0_ n1_;(try clear hb);(try clear hb2);(try clear hk);(try clear hi)))
       go_ret2
       exact ⟨_,by first | rfl | (simp [errW_none,errW_some] <;> rfl) | (simp [*,errW_none,errW_some] <;> rfl) | (simp [errW_none,errW_some];exact isEmpty_bne _),by first | exact Kd.R_nil _ _ _ _ _ | exact Kd.N_nil _ _ _ _ _ | exact Kd.V_nil _ _ _ _ _ | exact Kd.Q_nil _ _ _ _ _ | exact Kd.S_nil _ _ _ _ _,by repeat (first | (with_reducible first | exact HB.out | apply below_alloc | apply pw_below_drewN | apply below_drew1) | exact HB.out)⟩
  ·rw [if_neg c5] at H
   have c5b0 : (t250 == 0) = false:=beq_eq_false_iff_ne.mpr c5
   have c5b1 : (t250 != 0) = true:=bne_iff_ne.mpr c5
   simp only [Option.some.injEq,Prod.mk.injEq] at H
   obtain ⟨rfl,rfl⟩:=H
   go_enter Try.func13,Try.ntmps13
   go_wp2_with (first | ((with_reducible refine gate_callee (f:=35) rfl ?_);refine goesL_ (some 25) rfl rfl Try.func35 (by kernel_rfl) rfl #[.string a0] rfl (by (try simp only [List.map_toArray,List.map_cons,List.map_nil]);first | done | rfl | (simp only [List.length_drop,List.length_take];rfl)) ?_;(with_reducible refine (thwartref02_Open.calls k a0 t246 true _ A2.out).mono ?_);rintro e w58 ⟨rfl,hb⟩;refine ⟨_,rfl,?_⟩;have n0_:=Aside0.mk (below_step (by repeat (first | (with_reducible first | exact HB.out | apply below_alloc | apply pw_below_drewN | apply below_drew1) | exact HB.out)) hb);clear HB;have HB:=n0_;clear n0_;(try clear hb);(try clear hb2);(try clear hk);(try clear hi)) | ((with_reducible refine gate_callee (f:=36) rfl ?_);refine goesL_ (some 32) rfl rfl Try.func36 (by kernel_rfl) rfl #[.string t246] rfl (by (try simp only [List.map_toArray,List.map_cons,List.map_nil]);first | done | rfl | (simp only [List.length_drop,List.length_take];rfl)) ?_;(with_reducible refine (thwartref01_Take.calls k t246 t248 t249 t250 _ A4.out).mono ?_);rintro e w59 ⟨rfl,hb⟩;refine ⟨_,rfl,?_⟩;have n0_:=Aside0.mk (below_step (by repeat (first | (with_reducible first | exact HB.out | apply below_alloc | apply pw_below_drewN | apply below_drew1) | exact HB.out)) hb);clear HB;have HB:=n0_;clear n0_;(try clear hb);(try clear hb2);(try clear hk);(try clear hi)))
   go_ret2
   exact ⟨_,by first | rfl | (simp [errW_none,errW_some] <;> rfl) | (simp [*,errW_none,errW_some] <;> rfl) | (simp [errW_none,errW_some];exact isEmpty_bne _),by first | exact Kd.R_nil _ _ _ _ _ | exact Kd.N_nil _ _ _ _ _ | exact Kd.V_nil _ _ _ _ _ | exact Kd.Q_nil _ _ _ _ _ | exact Kd.S_nil _ _ _ _ _,by repeat (first | (with_reducible first | exact HB.out | apply below_alloc | apply pw_below_drewN | apply below_drew1) | exact HB.out)⟩
 ·replace c3:=Bool.eq_false_iff.mpr c3
  subst c3
  have H1 : (some (([] : List (S49)),4)) = some (r1,r2):=by rw [if_neg (show ¬ (false = true) by decide)] at H;exact H
  clear H
  have H:=H1
  clear H1
  simp only [Option.some.injEq,Prod.mk.injEq] at H
  obtain ⟨rfl,rfl⟩:=H
  go_enter Try.func13,Try.ntmps13
  go_wp2_with (first | ((with_reducible refine gate_callee (f:=35) rfl ?_);refine goesL_ (some 25) rfl rfl Try.func35 (by kernel_rfl) rfl #[.string a0] rfl (by (try simp only [List.map_toArray,List.map_cons,List.map_nil]);first | done | rfl | (simp only [List.length_drop,List.length_take];rfl)) ?_;(with_reducible refine (thwartref02_Open.calls k a0 t246 false _ A2.out).mono ?_);rintro e w60 ⟨rfl,hb⟩;refine ⟨_,rfl,?_⟩;have n0_:=Aside0.mk (below_step (by repeat (first | (with_reducible first | exact HB.out | apply below_alloc | apply pw_below_drewN | apply below_drew1) | exact HB.out)) hb);clear HB;have HB:=n0_;clear n0_;(try clear hb);(try clear hb2);(try clear hk);(try clear hi)))
  go_ret2
  exact ⟨_,by first | rfl | (simp [errW_none,errW_some] <;> rfl) | (simp [*,errW_none,errW_some] <;> rfl) | (simp [errW_none,errW_some];exact isEmpty_bne _),by first | exact Kd.R_nil _ _ _ _ _ | exact Kd.N_nil _ _ _ _ _ | exact Kd.V_nil _ _ _ _ _ | exact Kd.Q_nil _ _ _ _ _ | exact Kd.S_nil _ _ _ _ _,by repeat (first | (with_reducible first | exact HB.out | apply below_alloc | apply pw_below_drewN | apply below_drew1) | exact HB.out)⟩

end Go.Proofs.Ytdjkkceamldmjaa.Print
