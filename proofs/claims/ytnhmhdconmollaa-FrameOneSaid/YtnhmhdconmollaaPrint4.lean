/- Written by a program of mine (give.py, over the kit's print) out of the translation: contracts of the Go functions. Lean checks it. -/
import Derived.Test.YtnhmhdconmollaaPrint0
import Derived.Test.YtnhmhdconmollaaPrint2
namespace Go.Proofs.Ytnhmhdconmollaa.Print
open Go.RowKit Go.Proofs.YtnhmhdconmollaaW.PrintWords Go.Proofs.YtnhmhdconmollaaW.PrintLast Go.Proofs.YtnhmhdconmollaaW.PrintMore
attribute [local go_sem] max2_int min2_int max_two min_two max_three min_three max_four min_four   -- for this text's walks alone
set_option linter.unusedVariables false
set_option linter.unusedSimpArgs false

/-! ### varint_Take: function 36 -/
def varint_Take.l0 : Nat → ByteArray → Int → Int → Option (Int × ByteArray × Int)
 | 0,_,_,_ => none
 | k + 1,x0,x5,x8 => if x8 < 10 then (if x8 = (x0.size : Int) then (some (0,(⟨#[]⟩ : ByteArray),3)) else (if 0 ≤ x8 then (if x8 < (x0.size : Int) then (if 0 ≤ (wrap64 (7 * x8)) then (if (bt x0 x8) ≥ 128 then (varint_Take.l0 k x0 (Go.bits .or .u64 x5 (shl .u64 (IntKind.u64.wrap (Go.bits .andNot .u8 (bt x0 x8) 128)) (wrap64 (7 * x8)))) (wrap64 (x8 + 1))) else ((varint_Put.f (Go.bits .or .u64 x5 (shl .u64 (IntKind.u64.wrap (Go.bits .andNot .u8 (bt x0 x8) 128)) (wrap64 (7 * x8))))).bind fun t123 => (if 0 ≤ (wrap64 (x8 + 1)) then (if (wrap64 (x8 + 1)) ≤ (x0.size : Int) then (if t123.toList = (x0.extract 0 ((wrap64 (x8 + 1)) : Int).toNat).toList then (some (Go.bits .or .u64 x5 (shl .u64 (IntKind.u64.wrap (Go.bits .andNot .u8 (bt x0 x8) 128)) (wrap64 (7 * x8))),x0.extract ((wrap64 (x8 + 1)) : Int).toNat x0.size,0)) else (some (0,(⟨#[]⟩ : ByteArray),2))) else (none)) else (none)))) else (none)) else (none)) else (none))) else (some (0,(⟨#[]⟩ : ByteArray),2))
def varint_Take.f (k : Nat) (a0 : ByteArray) : Option (Int × ByteArray × Int):=varint_Take.l0 k a0 0 0
theorem varint_Take.mono_l : ∀ k,(∀ y0 y1 y2,LeO (varint_Take.l0 k y0 y1 y2) (varint_Take.l0 (k + 1) y0 y1 y2))
 | 0 => fun _ _ _ r h => by simp [varint_Take.l0] at h
 | k + 1 => by
  have ih0:=varint_Take.mono_l k
  ·intro y0 y1 y2
   unfold varint_Take.l0
   repeat' first
   | (with_reducible exact ih0 _ _ _)
   | (with_reducible exact LeO.refl _)
   | (with_reducible exact LeO.none _)
   | (with_reducible refine LeO.ite ?_ ?_)
   | (with_reducible refine LeO.bind ?_ (fun _ => ?_))
   | exact ih0 _ _ _
   | exact LeO.none _
   | refine LeO.ite ?_ ?_
   | refine LeO.bind ?_ (fun _ => ?_)
theorem varint_Take.mono : ∀ a0 k,LeO (varint_Take.f k a0) (varint_Take.f (k + 1) a0):=by
 intro a0 k
 have ih0:=varint_Take.mono_l k
 unfold varint_Take.f
 repeat' first
   | (with_reducible exact ih0 _ _ _)
   | (with_reducible exact LeO.refl _)
   | (with_reducible exact LeO.none _)
   | (with_reducible refine LeO.ite ?_ ?_)
   | (with_reducible refine LeO.bind ?_ (fun _ => ?_))
   | exact ih0 _ _ _
   | exact LeO.none _
   | refine LeO.ite ?_ ?_
   | refine LeO.bind ?_ (fun _ => ?_)
def varint_Take.T12 : Bool × List (List Nat × List Nat):=(true,[([],[]),([],[]),([],[]),([2],[2]),([1,3],[1,3]),([0,0],[0]),([4,5,0,1,2,3,4,5],[4]),([6,0,1,2,3,4,5,6],[])])
def varint_Take.B12 : List Nat:=[0,0,0,4,14,1,63,127]
theorem varint_Take.tab12 : rtab .any (opsOf Try.f36 12) = varint_Take.T12:=by kernel_rfl
theorem varint_Take.bits12 : waitsOk varint_Take.T12.2 varint_Take.B12 = true:=by kernel_rfl
set_option maxHeartbeats 8000000 in
set_option maxRecDepth 100000 in
theorem varint_Take.calls (k : Nat) (a0 : ByteArray) (r1 : Int) (r2 : ByteArray) (r3 : Int) (w : World) (h : varint_Take.f k a0 = some (r1,r2,r3)) :
  Calls Try.prog 36 #[.string a0] w fun e w' => e = .returned (.tuple #[.int .u64 r1,.string r2,.int .i64 r3]) ∧ Below w.heap.size w w' := by
 have HB:=Aside0.mk (Below.refl w.heap.size w)
 have H : (varint_Take.l0 k a0 0 0) = some (r1,r2,r3):=h
 clear h
 have H' := Aside0.mk H
 clear H
 go_enter Try.func36,Try.ntmps36
 go_wp2
 go_loopg [5,8] k (fun kq v5 v8 w' => ∃ (x5_1 : Int) (x8_1 : Int),v5 = .int .u64 x5_1 ∧ v8 = .int .i64 x8_1 ∧ Aside0 (varint_Take.l0 kq a0 x5_1 x8_1 = some (r1,r2,r3)) ∧ Aside0 (kq ≤ k) ∧ Aside0 (Below w.heap.size w w'))
 case atStart => exact ⟨(0),(0),(by first | rfl | (simp;done) | (simp [*];done)),(by first | rfl | (simp;done) | (simp [*];done)),H',⟨Nat.le_refl _⟩,⟨by repeat (first | (with_reducible first | exact HB.out | apply below_alloc | apply pw_below_drewN | apply below_drew1) | exact HB.out)⟩⟩
 case round =>
  clear H'
  obtain ⟨x5_1,x8_1,rfl,rfl,HA,HK1,HB⟩:=hrel
  cases gk with
  | zero => exact absurd HA.out (by simp [varint_Take.l0])
  | succ k1 =>
   have H:=HA.out
   clear HA
   simp only [varint_Take.l0] at H
   by_cases c2 : x8_1 < 10
   ·rw [if_pos c2] at H
    have c2b0 : decide (x8_1 < 10) = true:=decide_eq_true c2
    clear c2
    by_cases c3 : x8_1 = (a0.size : Int)
    ·rw [if_pos c3] at H
     have c3b0 : (x8_1 == (a0.size : Int)) = true:=beq_iff_eq.mpr c3
     have c3b1 : (x8_1 != (a0.size : Int)) = false:=bne_eq_false_iff_eq.mpr c3
     clear c3
     simp only [Option.some.injEq,Prod.mk.injEq] at H
     obtain ⟨rfl,rfl,rfl⟩:=H
     go_wp2
     go_ret3
     exact ⟨by first | rfl | (simp [errW_none,errW_some] <;> rfl) | (simp [*,errW_none,errW_some] <;> rfl) | (simp [errW_none,errW_some];exact isEmpty_bne _),by repeat (first | (with_reducible first | exact HB.out | apply below_alloc | apply pw_below_drewN | apply below_drew1) | exact HB.out)⟩
    ·rw [if_neg c3] at H
     have c3b0 : (x8_1 == (a0.size : Int)) = false:=beq_eq_false_iff_ne.mpr c3
     have c3b1 : (x8_1 != (a0.size : Int)) = true:=bne_iff_ne.mpr c3
     by_cases c4 : 0 ≤ x8_1
     ·rw [if_pos c4] at H
      have c4b0 : decide (0 ≤ x8_1) = true:=decide_eq_true c4
      clear c4
      by_cases c5 : x8_1 < (a0.size : Int)
      ·rw [if_pos c5] at H
       have c5b0 : decide (x8_1 < (a0.size : Int)) = true:=decide_eq_true c5
       clear c5
       obtain ⟨ji7,hji7⟩ : ∃ j_ : Int,(wrap64 (7 * x8_1)) = j_:=⟨_,rfl⟩
       replace H : (if 0 ≤ (ji7) then (if (bt a0 x8_1) ≥ 128 then (varint_Take.l0 k1 a0 (Go.bits .or .u64 x5_1 (shl .u64 (IntKind.u64.wrap (Go.bits .andNot .u8 (bt a0 x8_1) 128)) (ji7))) (wrap64 (x8_1 + 1))) else ((varint_Put.f (Go.bits .or .u64 x5_1 (shl .u64 (IntKind.u64.wrap (Go.bits .andNot .u8 (bt a0 x8_1) 128)) (ji7)))).bind fun t123 => (if 0 ≤ (wrap64 (x8_1 + 1)) then (if (wrap64 (x8_1 + 1)) ≤ (a0.size : Int) then (if t123.toList = (a0.extract 0 ((wrap64 (x8_1 + 1)) : Int).toNat).toList then (some (Go.bits .or .u64 x5_1 (shl .u64 (IntKind.u64.wrap (Go.bits .andNot .u8 (bt a0 x8_1) 128)) (ji7)),a0.extract ((wrap64 (x8_1 + 1)) : Int).toNat a0.size,0)) else (some (0,(⟨#[]⟩ : ByteArray),2))) else (none)) else (none)))) else (none)) = some (r1,r2,r3):=by first | (rw [hji7] at H;exact H) | (simp only [hji7] at H ⊢;exact H)
       have hji7w : (IntKind.i64.wrap (7 * x8_1)) = ji7:=(i64_w _).trans hji7
       by_cases c8 : 0 ≤ (ji7)
       ·rw [if_pos c8] at H
        have c8b0:=eq_true c8
        have c8b1 : decide (0 ≤ (ji7)) = true:=decide_eq_true c8
        clear c8
        obtain ⟨ji9,hji9⟩ : ∃ j_ : Int,(shl .u64 (IntKind.u64.wrap (Go.bits .andNot .u8 (bt a0 x8_1) 128)) (ji7)) = j_:=⟨_,rfl⟩
        replace H : (if (bt a0 x8_1) ≥ 128 then (varint_Take.l0 k1 a0 (Go.bits .or .u64 x5_1 (ji9)) (wrap64 (x8_1 + 1))) else ((varint_Put.f (Go.bits .or .u64 x5_1 (ji9))).bind fun t123 => (if 0 ≤ (wrap64 (x8_1 + 1)) then (if (wrap64 (x8_1 + 1)) ≤ (a0.size : Int) then (if t123.toList = (a0.extract 0 ((wrap64 (x8_1 + 1)) : Int).toNat).toList then (some (Go.bits .or .u64 x5_1 (ji9),a0.extract ((wrap64 (x8_1 + 1)) : Int).toNat a0.size,0)) else (some (0,(⟨#[]⟩ : ByteArray),2))) else (none)) else (none)))) = some (r1,r2,r3):=by first | (rw [hji9] at H;exact H) | (simp only [hji9] at H ⊢;exact H)
        have hji9_ : (IntKind.u64.wrap ((IntKind.u64.wrap (Go.bits .andNot .u8 (bt a0 x8_1) 128)) * 2 ^ min (ji7).toNat 64)) = ji9:=hji9
        have hji9z : (ji7) ≤ 64 → (IntKind.u64.wrap ((IntKind.u64.wrap (Go.bits .andNot .u8 (bt a0 x8_1) 128)) * 2 ^ (ji7).toNat)) = ji9:=shl_small hji9
        by_cases c10 : (bt a0 x8_1) ≥ 128
        ·rw [if_pos c10] at H
         have c10b0 : decide (128 ≤ (bt a0 x8_1)) = true:=decide_eq_true c10
         clear c10
         have H' := Aside0.mk H
         clear H
         have p6 : 0 ≤ (x8_1 : Int):=of_decide_eq_true (by first | (with_reducible assumption) | assumption)
         have q6 : x8_1 < (a0.size : Int):=of_decide_eq_true (by first | (with_reducible assumption) | assumption)
         have hx6:=bt_at a0 x8_1
         replace p6:=eq_true p6
         replace q6:=eq_true q6
         go_wp2
         go_roundg k1
         case measure => have:=HK1.out;omega
         case rel => exact ⟨(Go.bits .or .u64 x5_1 (ji9)),(wrap64 (x8_1 + 1)),(by first | rfl | (simp;done) | (simp only [← hji9] <;> (first | rfl | simp)) | (simp [*];done)),(by first | rfl | (simp;done) | (simp [*];done)),H',⟨by have:=HK1.out;omega⟩,⟨by repeat (first | (with_reducible first | exact HB.out | apply below_alloc | apply pw_below_drewN | apply below_drew1) | exact HB.out)⟩⟩
        ·rw [if_neg c10] at H
         have c10b0 : decide (128 ≤ (bt a0 x8_1)) = false:=decide_eq_false c10
         clear c10
         replace H:=Option.bind_eq_some_iff.mp H
         obtain ⟨t123,A110,H⟩:=H
         replace H : (if 0 ≤ (wrap64 (x8_1 + 1)) then (if (wrap64 (x8_1 + 1)) ≤ (a0.size : Int) then (if t123.toList = (a0.extract 0 ((wrap64 (x8_1 + 1)) : Int).toNat).toList then (some (Go.bits .or .u64 x5_1 (ji9),a0.extract ((wrap64 (x8_1 + 1)) : Int).toNat a0.size,0)) else (some (0,(⟨#[]⟩ : ByteArray),2))) else (none)) else (none)) = some (r1,r2,r3):=H
         have A11:=Aside0.mk A110
         clear A110
         obtain ⟨ji12,hji12⟩ : ∃ j_ : Int,(wrap64 (x8_1 + 1)) = j_:=⟨_,rfl⟩
         replace H : (if 0 ≤ (ji12) then (if (ji12) ≤ (a0.size : Int) then (if t123.toList = (a0.extract 0 ((ji12) : Int).toNat).toList then (some (Go.bits .or .u64 x5_1 (ji9),a0.extract ((ji12) : Int).toNat a0.size,0)) else (some (0,(⟨#[]⟩ : ByteArray),2))) else (none)) else (none)) = some (r1,r2,r3):=by first | (rw [hji12] at H;exact H) | (simp only [hji12] at H ⊢;exact H)
         (try rw [hji12] at A11)
         have hji12w : (IntKind.i64.wrap (x8_1 + 1)) = ji12:=(i64_w _).trans hji12
         by_cases c13 : 0 ≤ (ji12)
         ·rw [if_pos c13] at H
          have c13b0:=eq_true c13
          have c13b1 : decide (0 ≤ (ji12)) = true:=decide_eq_true c13
          clear c13
          by_cases c14 : (ji12) ≤ (a0.size : Int)
          ·rw [if_pos c14] at H
           have c14b0:=eq_true c14
           have c14b1 : decide ((ji12) ≤ (a0.size : Int)) = true:=decide_eq_true c14
           clear c14
           by_cases c15 : t123.toList = (a0.extract 0 ((ji12) : Int).toNat).toList
           ·rw [if_pos c15] at H
            have c15b0 : (t123.toList == (a0.extract 0 ((ji12) : Int).toNat).toList) = true:=beq_iff_eq.mpr c15
            have c15b1 : (t123.toList != (a0.extract 0 ((ji12) : Int).toNat).toList) = false:=bne_eq_false_iff_eq.mpr c15
            clear c15
            have c16b0:=eq_true (of_decide_eq_true (by first | (with_reducible assumption) | assumption) : 0 ≤ (ji12))
            have c17b0:=eq_true (of_decide_eq_true (by first | (with_reducible assumption) | assumption) : (ji12) ≤ (a0.size : Int))
            simp only [Option.some.injEq,Prod.mk.injEq] at H
            obtain ⟨rfl,rfl,rfl⟩:=H
            have p6 : 0 ≤ (x8_1 : Int):=of_decide_eq_true (by first | (with_reducible assumption) | assumption)
            have q6 : x8_1 < (a0.size : Int):=of_decide_eq_true (by first | (with_reducible assumption) | assumption)
            have hx6:=bt_at a0 x8_1
            replace p6:=eq_true p6
            replace q6:=eq_true q6
            try go_wp2
            have n0_:=Aside0.mk (below_drew1 HB.out)
            clear HB
            have HB:=n0_
            clear n0_
            refine start_ (n:=7) (S:=fun w' => True) (ds:=[]) #[false,false,false,false,false,false,false] (by kernel_rfl) rfl rfl trivial (fun hHeld => ?_)
            generalize wr.drew = w18 at HB hHeld ⊢
            refine pure_ (i:=0) (N:=some 28) (v := ?_) (a' := ?_) #[true,false,false,false,false,false,false] rfl rfl (by kernel_rfl) (fun _ _ _ h => h) (Or.inl ⟨by rfl,?_⟩) ?_ ?_
            rotate_left
            ·intro w'
             go_simp
             with_reducible rfl
            rotate_left
            ·simp only [Act.put,List.setIfInBounds_toArray,List.set_cons_zero,List.set_cons_succ,i64_w,i32_w]
             rfl
            refine pure_ (i:=2) (N:=some 30) (v := ?_) (a' := ?_) #[true,false,true,false,false,false,false] rfl rfl (by kernel_rfl) (fun _ _ _ h => h) (Or.inl ⟨by rfl,?_⟩) ?_ ?_
            rotate_left
            ·intro w'
             go_simp
             with_reducible rfl
            rotate_left
            ·simp only [Act.put,List.setIfInBounds_toArray,List.set_cons_zero,List.set_cons_succ,i64_w,i32_w]
             rfl
            refine pure_ (i:=3) (N:=some 31) (v := ?_) (a' := ?_) #[true,false,true,true,false,false,false] rfl rfl (by kernel_rfl) (fun _ _ _ h => h) (Or.inl ⟨by rfl,?_⟩) ?_ ?_
            rotate_left
            ·intro w'
             go_simp
             with_reducible rfl
            rotate_left
            ·simp only [Act.put,List.setIfInBounds_toArray,List.set_cons_zero,List.set_cons_succ,i64_w,i32_w]
             rfl
            refine pure_ (i:=4) (N:=some 32) (v := ?_) (a' := ?_) #[true,false,true,true,true,false,false] rfl rfl (by kernel_rfl) (fun _ _ _ h => h) (Or.inl ⟨by rfl,?_⟩) ?_ ?_
            rotate_left
            ·intro w'
             go_simp
             with_reducible rfl
            rotate_left
            ·simp only [Act.put,List.setIfInBounds_toArray,List.set_cons_zero,List.set_cons_succ,i64_w,i32_w]
             rfl
            refine pure_ (i:=5) (N:=some 33) (v := ?_) (a' := ?_) #[true,false,true,true,true,true,false] rfl rfl (by kernel_rfl) (fun _ _ _ h => h) (Or.inl ⟨by rfl,?_⟩) ?_ ?_
            rotate_left
            ·intro w'
             go_simp
             with_reducible rfl
            rotate_left
            ·simp only [Act.put,List.setIfInBounds_toArray,List.set_cons_zero,List.set_cons_succ,i64_w,i32_w]
             rfl
            refine one_ (i:=1) (N:=some 29) #[true,true,true,true,true,true,false] rfl rfl (by kernel_rfl) (by decide) (fun K hK => ?_)
            refine goes_ Try.func32 (by kernel_rfl) rfl #[.int .u64 (Go.bits .or .u64 x5_1 (ji9))] (by rfl) rfl rfl (by (try simp only [List.map_toArray,List.map_cons,List.map_nil]);first | done | (simp only [hji9];rfl) | rfl | (simp only [List.length_drop,List.length_take];rfl)) ?_
            with_reducible refine (varint_Put.calls (Go.bits .or .u64 x5_1 (ji9)) t123 _ A11.out).mono ?_
            rintro e w19 ⟨rfl,hb⟩
            refine ⟨_,rfl,?_⟩
            have n0_:=Aside0.mk (below_step (by repeat (first | (with_reducible first | exact HB.out | apply below_alloc | apply pw_below_drewN | apply below_drew1) | exact HB.out)) hb)
            clear HB
            have HB:=n0_
            clear n0_
            (try clear hb)
            (try clear hb2)
            (try clear hk)
            (try clear hi)
            refine hK.out _ _ trivial (fun hHeld => ?_)
            clear hK K
            refine norm_ (a' := ?_) ?_ ?_
            rotate_left
            ·show Act.put _ (some 29) _ = _
             simp only [Act.put,List.setIfInBounds_toArray,List.set_cons_zero,List.set_cons_succ,i64_w,i32_w]
             rfl
            refine pure_ (i:=6) (N:=some 34) (v := ?_) (a' := ?_) #[true,true,true,true,true,true,true] rfl rfl (by kernel_rfl) (fun _ _ _ h => h) (Or.inl ⟨by rfl,?_⟩) ?_ ?_
            rotate_left
            ·intro w'
             go_simp
             with_reducible rfl
            rotate_left
            ·simp only [Act.put,List.setIfInBounds_toArray,List.set_cons_zero,List.set_cons_succ,i64_w,i32_w]
             rfl
            refine done_ (by kernel_rfl) ?_
            try go_wp2
            have n0_:=Aside0.mk (below_drew1 HB.out)
            clear HB
            have HB:=n0_
            clear n0_
            refine start_ (n:=8) (S:=fun w' => True) (ds:=[]) #[false,false,false,false,false,false,false,false] (by kernel_rfl) rfl rfl trivial (fun hHeld => ?_);refine with_tabW varint_Take.tab12 varint_Take.bits12 (fun HT_ HW_ => ?_)
            generalize w19.drew = w20 at HB hHeld ⊢
            refine pure_ (i:=0) (N:=some 35) (v := ?_) (a' := ?_) #[true,false,false,false,false,false,false,false] rfl rfl (any_of HT_.out (by kernel_rfl)) (fun _ _ _ h => h) (Or.inl ⟨by rfl,?_⟩) ?_ ?_
            rotate_left
            ·intro w'
             go_simp
             with_reducible rfl
            rotate_left
            ·simp only [Act.put,List.setIfInBounds_toArray,List.set_cons_zero,List.set_cons_succ,i64_w,i32_w]
             rfl
            refine pure_ (i:=1) (N:=some 36) (v := ?_) (a' := ?_) #[true,true,false,false,false,false,false,false] rfl rfl (any_of HT_.out (by kernel_rfl)) (fun _ _ _ h => h) (Or.inl ⟨by rfl,?_⟩) ?_ ?_
            rotate_left
            ·intro w'
             go_simp
             with_reducible rfl
            rotate_left
            ·simp only [Act.put,List.setIfInBounds_toArray,List.set_cons_zero,List.set_cons_succ,i64_w,i32_w]
             rfl
            refine pure_ (i:=2) (N:=some 37) (v := ?_) (a' := ?_) #[true,true,true,false,false,false,false,false] rfl rfl (any_of HT_.out (by kernel_rfl)) (fun _ _ _ h => h) (Or.inl ⟨by rfl,?_⟩) ?_ ?_
            rotate_left
            ·intro w'
             go_simp
             with_reducible rfl
            rotate_left
            ·simp only [Act.put,List.setIfInBounds_toArray,List.set_cons_zero,List.set_cons_succ,i64_w,i32_w]
             rfl
            refine pure_ (i:=3) (N:=some 38) (v := ?_) (a' := ?_) #[true,true,true,true,false,false,false,false] rfl rfl (any_of HT_.out (by kernel_rfl)) (fun _ _ _ h => h) (Or.inl ⟨by rfl,?_⟩) ?_ ?_
            rotate_left
            ·intro w'
             go_simp
             with_reducible rfl
            rotate_left
            ·simp only [Act.put,List.setIfInBounds_toArray,List.set_cons_zero,List.set_cons_succ,i64_w,i32_w]
             rfl
            refine pure_ (i:=4) (N:=some 39) (v := ?_) (a' := ?_) #[true,true,true,true,true,false,false,false] rfl rfl (any_of HT_.out (by kernel_rfl)) (fun _ _ _ h => h) (Or.inl ⟨by rfl,?_⟩) ?_ ?_
            rotate_left
            ·intro w'
             go_simp
             with_reducible rfl
            rotate_left
            ·simp only [Act.put,List.setIfInBounds_toArray,List.set_cons_zero,List.set_cons_succ,i64_w,i32_w]
             rfl
            refine pure_ (i:=5) (N:=some 2) (v := ?_) (a' := ?_) #[true,true,true,true,true,true,false,false] rfl rfl (any_of HT_.out (by kernel_rfl)) (fun _ _ _ h => h) (Or.inl ⟨by rfl,?_⟩) ?_ ?_
            rotate_left
            ·intro w'
             go_simp
             with_reducible rfl
            rotate_left
            ·simp only [Act.put,List.setIfInBounds_toArray,List.set_cons_zero,List.set_cons_succ,i64_w,i32_w]
             rfl
            refine pure_ (i:=6) (N:=some 3) (v := ?_) (a' := ?_) #[true,true,true,true,true,true,true,false] rfl rfl (any_of HT_.out (by kernel_rfl)) (fun _ _ _ h => h) (Or.inl ⟨by rfl,?_⟩) ?_ ?_
            rotate_left
            ·intro w'
             go_simp
             with_reducible rfl
            rotate_left
            ·simp only [Act.put,List.setIfInBounds_toArray,List.set_cons_zero,List.set_cons_succ,i64_w,i32_w]
             rfl
            refine pure_ (i:=7) (N:=some 4) (v := ?_) (a' := ?_) #[true,true,true,true,true,true,true,true] rfl rfl (any_of HT_.out (by kernel_rfl)) (fun _ _ _ h => h) (Or.inl ⟨by rfl,?_⟩) ?_ ?_
            rotate_left
            ·intro w'
             go_simp
             with_reducible rfl
            rotate_left
            ·simp only [Act.put,List.setIfInBounds_toArray,List.set_cons_zero,List.set_cons_succ,i64_w,i32_w]
             rfl
            refine done_ (done_of HT_.out (by kernel_rfl)) ?_
            try go_wp2
            go_ret3
            exact ⟨by first | rfl | (simp [errW_none,errW_some] <;> rfl) | (simp only [← hji7,← hji9,← hji12];first | rfl | (simp [errW_none,errW_some] <;> rfl)) | (simp [*,errW_none,errW_some] <;> rfl) | (simp [errW_none,errW_some];exact isEmpty_bne _),by repeat (first | (with_reducible first | exact HB.out | apply below_alloc | apply pw_below_drewN | apply below_drew1) | exact HB.out)⟩
           ·rw [if_neg c15] at H
            have c15b0 : (t123.toList == (a0.extract 0 ((ji12) : Int).toNat).toList) = false:=beq_eq_false_iff_ne.mpr c15
            have c15b1 : (t123.toList != (a0.extract 0 ((ji12) : Int).toNat).toList) = true:=bne_iff_ne.mpr c15
            simp only [Option.some.injEq,Prod.mk.injEq] at H
            obtain ⟨rfl,rfl,rfl⟩:=H
            have p6 : 0 ≤ (x8_1 : Int):=of_decide_eq_true (by first | (with_reducible assumption) | assumption)
            have q6 : x8_1 < (a0.size : Int):=of_decide_eq_true (by first | (with_reducible assumption) | assumption)
            have hx6:=bt_at a0 x8_1
            replace p6:=eq_true p6
            replace q6:=eq_true q6
            try go_wp2
            have n0_:=Aside0.mk (below_drew1 HB.out)
            clear HB
            have HB:=n0_
            clear n0_
            refine start_ (n:=7) (S:=fun w' => True) (ds:=[]) #[false,false,false,false,false,false,false] (by kernel_rfl) rfl rfl trivial (fun hHeld => ?_)
            generalize wr.drew = w21 at HB hHeld ⊢
            refine pure_ (i:=0) (N:=some 28) (v := ?_) (a' := ?_) #[true,false,false,false,false,false,false] rfl rfl (by kernel_rfl) (fun _ _ _ h => h) (Or.inl ⟨by rfl,?_⟩) ?_ ?_
            rotate_left
            ·intro w'
             go_simp
             with_reducible rfl
            rotate_left
            ·simp only [Act.put,List.setIfInBounds_toArray,List.set_cons_zero,List.set_cons_succ,i64_w,i32_w]
             rfl
            refine pure_ (i:=2) (N:=some 30) (v := ?_) (a' := ?_) #[true,false,true,false,false,false,false] rfl rfl (by kernel_rfl) (fun _ _ _ h => h) (Or.inl ⟨by rfl,?_⟩) ?_ ?_
            rotate_left
            ·intro w'
             go_simp
             with_reducible rfl
            rotate_left
            ·simp only [Act.put,List.setIfInBounds_toArray,List.set_cons_zero,List.set_cons_succ,i64_w,i32_w]
             rfl
            refine pure_ (i:=3) (N:=some 31) (v := ?_) (a' := ?_) #[true,false,true,true,false,false,false] rfl rfl (by kernel_rfl) (fun _ _ _ h => h) (Or.inl ⟨by rfl,?_⟩) ?_ ?_
            rotate_left
            ·intro w'
             go_simp
             with_reducible rfl
            rotate_left
            ·simp only [Act.put,List.setIfInBounds_toArray,List.set_cons_zero,List.set_cons_succ,i64_w,i32_w]
             rfl
            refine pure_ (i:=4) (N:=some 32) (v := ?_) (a' := ?_) #[true,false,true,true,true,false,false] rfl rfl (by kernel_rfl) (fun _ _ _ h => h) (Or.inl ⟨by rfl,?_⟩) ?_ ?_
            rotate_left
            ·intro w'
             go_simp
             with_reducible rfl
            rotate_left
            ·simp only [Act.put,List.setIfInBounds_toArray,List.set_cons_zero,List.set_cons_succ,i64_w,i32_w]
             rfl
            refine pure_ (i:=5) (N:=some 33) (v := ?_) (a' := ?_) #[true,false,true,true,true,true,false] rfl rfl (by kernel_rfl) (fun _ _ _ h => h) (Or.inl ⟨by rfl,?_⟩) ?_ ?_
            rotate_left
            ·intro w'
             go_simp
             with_reducible rfl
            rotate_left
            ·simp only [Act.put,List.setIfInBounds_toArray,List.set_cons_zero,List.set_cons_succ,i64_w,i32_w]
             rfl
            refine one_ (i:=1) (N:=some 29) #[true,true,true,true,true,true,false] rfl rfl (by kernel_rfl) (by decide) (fun K hK => ?_)
            refine goes_ Try.func32 (by kernel_rfl) rfl #[.int .u64 (Go.bits .or .u64 x5_1 (ji9))] (by rfl) rfl rfl (by (try simp only [List.map_toArray,List.map_cons,List.map_nil]);first | done | (simp only [hji9];rfl) | rfl | (simp only [List.length_drop,List.length_take];rfl)) ?_
            with_reducible refine (varint_Put.calls (Go.bits .or .u64 x5_1 (ji9)) t123 _ A11.out).mono ?_
            rintro e w22 ⟨rfl,hb⟩
            refine ⟨_,rfl,?_⟩
            have n0_:=Aside0.mk (below_step (by repeat (first | (with_reducible first | exact HB.out | apply below_alloc | apply pw_below_drewN | apply below_drew1) | exact HB.out)) hb)
            clear HB
            have HB:=n0_
            clear n0_
            (try clear hb)
            (try clear hb2)
            (try clear hk)
            (try clear hi)
            refine hK.out _ _ trivial (fun hHeld => ?_)
            clear hK K
            refine norm_ (a' := ?_) ?_ ?_
            rotate_left
            ·show Act.put _ (some 29) _ = _
             simp only [Act.put,List.setIfInBounds_toArray,List.set_cons_zero,List.set_cons_succ,i64_w,i32_w]
             rfl
            refine pure_ (i:=6) (N:=some 34) (v := ?_) (a' := ?_) #[true,true,true,true,true,true,true] rfl rfl (by kernel_rfl) (fun _ _ _ h => h) (Or.inl ⟨by rfl,?_⟩) ?_ ?_
            rotate_left
            ·intro w'
             go_simp
             with_reducible rfl
            rotate_left
            ·simp only [Act.put,List.setIfInBounds_toArray,List.set_cons_zero,List.set_cons_succ,i64_w,i32_w]
             rfl
            refine done_ (by kernel_rfl) ?_
            try go_wp2
            go_ret3
            exact ⟨by first | rfl | (simp [errW_none,errW_some] <;> rfl) | (simp only [← hji7,← hji9,← hji12];first | rfl | (simp [errW_none,errW_some] <;> rfl)) | (simp [*,errW_none,errW_some] <;> rfl) | (simp [errW_none,errW_some];exact isEmpty_bne _),by repeat (first | (with_reducible first | exact HB.out | apply below_alloc | apply pw_below_drewN | apply below_drew1) | exact HB.out)⟩
          ·rw [if_neg c14] at H
           exact absurd H (by simp)
         ·rw [if_neg c13] at H
          exact absurd H (by simp)
       ·rw [if_neg c8] at H
        exact absurd H (by simp)
      ·rw [if_neg c5] at H
       exact absurd H (by simp)
     ·rw [if_neg c4] at H
      exact absurd H (by simp)
   ·rw [if_neg c2] at H
    have c2b0 : decide (x8_1 < 10) = false:=decide_eq_false c2
    clear c2
    simp only [Option.some.injEq,Prod.mk.injEq] at H
    obtain ⟨rfl,rfl,rfl⟩:=H
    go_wp2
    go_ret3
    exact ⟨by first | rfl | (simp [errW_none,errW_some] <;> rfl) | (simp [*,errW_none,errW_some] <;> rfl) | (simp [errW_none,errW_some];exact isEmpty_bne _),by repeat (first | (with_reducible first | exact HB.out | apply below_alloc | apply pw_below_drewN | apply below_drew1) | exact HB.out)⟩

/-! ### varint_OfText: function 37 -/
def varint_OfText.f (k : Nat) (a0 : ByteArray) : Option (ByteArray × ByteArray × Int):=(varint_Take.f k a0).bind fun bt124 => (if bt124.2.2 = 0 then (if bt124.1 > (IntKind.u64.wrap ((bt124.2.1.size : Int))) then (some ((⟨#[]⟩ : ByteArray),(⟨#[]⟩ : ByteArray),3)) else (if 0 ≤ bt124.1 then (if bt124.1 ≤ (bt124.2.1.size : Int) then (some (bt124.2.1.extract 0 (bt124.1 : Int).toNat,bt124.2.1.extract (bt124.1 : Int).toNat bt124.2.1.size,0)) else (none)) else (none))) else (some ((⟨#[]⟩ : ByteArray),(⟨#[]⟩ : ByteArray),bt124.2.2)))
theorem varint_OfText.mono : ∀ a0 k,LeO (varint_OfText.f k a0) (varint_OfText.f (k + 1) a0):=by
 intro a0 k
 unfold varint_OfText.f
 repeat' first
   | (with_reducible exact varint_Take.mono _ _)
   | (with_reducible exact LeO.refl _)
   | (with_reducible exact LeO.none _)
   | (with_reducible refine LeO.ite ?_ ?_)
   | (with_reducible refine LeO.bind ?_ (fun _ => ?_))
   | exact varint_Take.mono _ _
   | exact LeO.none _
   | refine LeO.ite ?_ ?_
   | refine LeO.bind ?_ (fun _ => ?_)
set_option maxHeartbeats 8000000 in
set_option maxRecDepth 100000 in
theorem varint_OfText.calls (k : Nat) (a0 : ByteArray) (r1 : ByteArray) (r2 : ByteArray) (r3 : Int) (w : World) (h : varint_OfText.f k a0 = some (r1,r2,r3)) :
  Calls Try.prog 37 #[.string a0] w fun e w' => e = .returned (.tuple #[.string r1,.string r2,.int .i64 r3]) ∧ Below w.heap.size w w' := by
 have HB:=Aside0.mk (Below.refl w.heap.size w)
 have H : ((varint_Take.f k a0).bind fun bt124 => (if bt124.2.2 = 0 then (if bt124.1 > (IntKind.u64.wrap ((bt124.2.1.size : Int))) then (some ((⟨#[]⟩ : ByteArray),(⟨#[]⟩ : ByteArray),3)) else (if 0 ≤ bt124.1 then (if bt124.1 ≤ (bt124.2.1.size : Int) then (some (bt124.2.1.extract 0 (bt124.1 : Int).toNat,bt124.2.1.extract (bt124.1 : Int).toNat bt124.2.1.size,0)) else (none)) else (none))) else (some ((⟨#[]⟩ : ByteArray),(⟨#[]⟩ : ByteArray),bt124.2.2)))) = some (r1,r2,r3):=h
 clear h
 replace H:=Option.bind_eq_some_iff.mp H
 obtain ⟨⟨t124,t125,t126⟩,A20,H⟩:=H
 replace H : (if t126 = 0 then (if t124 > (IntKind.u64.wrap ((t125.size : Int))) then (some ((⟨#[]⟩ : ByteArray),(⟨#[]⟩ : ByteArray),3)) else (if 0 ≤ t124 then (if t124 ≤ (t125.size : Int) then (some (t125.extract 0 (t124 : Int).toNat,t125.extract (t124 : Int).toNat t125.size,0)) else (none)) else (none))) else (some ((⟨#[]⟩ : ByteArray),(⟨#[]⟩ : ByteArray),t126))) = some (r1,r2,r3):=H
 have A2:=Aside0.mk A20
 clear A20
 by_cases c3 : t126 = 0
 ·rw [if_pos c3] at H
  have c3b0 : (t126 == 0) = true:=beq_iff_eq.mpr c3
  have c3b1 : (t126 != 0) = false:=bne_eq_false_iff_eq.mpr c3
  clear c3
  by_cases c4 : t124 > (IntKind.u64.wrap ((t125.size : Int)))
  ·rw [if_pos c4] at H
   have c4b0 : decide ((IntKind.u64.wrap ((t125.size : Int))) < t124) = true:=decide_eq_true c4
   clear c4
   simp only [Option.some.injEq,Prod.mk.injEq] at H
   obtain ⟨rfl,rfl,rfl⟩:=H
   go_enter Try.func37,Try.ntmps37
   go_wp2_with (first | (go_at_call 36;(with_reducible refine (varint_Take.calls k a0 t124 t125 t126 _ A2.out).mono ?_);rintro e w5 ⟨rfl,hb⟩;have n0_:=Aside0.mk (below_step (by repeat (first | (with_reducible first | exact HB.out | apply below_alloc | apply pw_below_drewN | apply below_drew1) | exact HB.out)) hb);clear HB;have HB:=n0_;clear n0_;(try clear hb);(try clear hb2);(try clear hk);(try clear hi)))
   repeat (go_quiet (first | (go_at_call 36;(with_reducible refine (varint_Take.calls k a0 t124 t125 t126 _ A2.out).mono ?_);rintro e w5 ⟨rfl,hb⟩;have n0_:=Aside0.mk (below_step (by repeat (first | (with_reducible first | exact HB.out | apply below_alloc | apply pw_below_drewN | apply below_drew1) | exact HB.out)) hb);clear HB;have HB:=n0_;clear n0_;(try clear hb);(try clear hb2);(try clear hk);(try clear hi)));try go_wp2_with (first | (go_at_call 36;(with_reducible refine (varint_Take.calls k a0 t124 t125 t126 _ A2.out).mono ?_);rintro e w5 ⟨rfl,hb⟩;have n0_:=Aside0.mk (below_step (by repeat (first | (with_reducible first | exact HB.out | apply below_alloc | apply pw_below_drewN | apply below_drew1) | exact HB.out)) hb);clear HB;have HB:=n0_;clear n0_;(try clear hb);(try clear hb2);(try clear hk);(try clear hi))))
   go_ret3
   exact ⟨by first | rfl | (simp [errW_none,errW_some] <;> rfl) | (simp [*,errW_none,errW_some] <;> rfl) | (simp [errW_none,errW_some];exact isEmpty_bne _),by repeat (first | (with_reducible first | exact HB.out | apply below_alloc | apply pw_below_drewN | apply below_drew1) | exact HB.out)⟩
  ·rw [if_neg c4] at H
   have c4b0 : decide ((IntKind.u64.wrap ((t125.size : Int))) < t124) = false:=decide_eq_false c4
   clear c4
   by_cases c6 : 0 ≤ t124
   ·rw [if_pos c6] at H
    have c6b0:=eq_true c6
    have c6b1 : decide (0 ≤ t124) = true:=decide_eq_true c6
    clear c6
    by_cases c7 : t124 ≤ (t125.size : Int)
    ·rw [if_pos c7] at H
     have c7b0:=eq_true c7
     have c7b1 : decide (t124 ≤ (t125.size : Int)) = true:=decide_eq_true c7
     clear c7
     have c8b0:=eq_true (of_decide_eq_true (by first | (with_reducible assumption) | assumption) : 0 ≤ t124)
     have c9b0:=eq_true (of_decide_eq_true (by first | (with_reducible assumption) | assumption) : t124 ≤ (t125.size : Int))
     simp only [Option.some.injEq,Prod.mk.injEq] at H
     obtain ⟨rfl,rfl,rfl⟩:=H
     go_enter Try.func37,Try.ntmps37
     go_wp2_with (first | (go_at_call 36;(with_reducible refine (varint_Take.calls k a0 t124 t125 t126 _ A2.out).mono ?_);rintro e w10 ⟨rfl,hb⟩;have n0_:=Aside0.mk (below_step (by repeat (first | (with_reducible first | exact HB.out | apply below_alloc | apply pw_below_drewN | apply below_drew1) | exact HB.out)) hb);clear HB;have HB:=n0_;clear n0_;(try clear hb);(try clear hb2);(try clear hk);(try clear hi)))
     repeat (go_quiet (first | (go_at_call 36;(with_reducible refine (varint_Take.calls k a0 t124 t125 t126 _ A2.out).mono ?_);rintro e w10 ⟨rfl,hb⟩;have n0_:=Aside0.mk (below_step (by repeat (first | (with_reducible first | exact HB.out | apply below_alloc | apply pw_below_drewN | apply below_drew1) | exact HB.out)) hb);clear HB;have HB:=n0_;clear n0_;(try clear hb);(try clear hb2);(try clear hk);(try clear hi)));try go_wp2_with (first | (go_at_call 36;(with_reducible refine (varint_Take.calls k a0 t124 t125 t126 _ A2.out).mono ?_);rintro e w10 ⟨rfl,hb⟩;have n0_:=Aside0.mk (below_step (by repeat (first | (with_reducible first | exact HB.out | apply below_alloc | apply pw_below_drewN | apply below_drew1) | exact HB.out)) hb);clear HB;have HB:=n0_;clear n0_;(try clear hb);(try clear hb2);(try clear hk);(try clear hi))))
     go_ret3
     exact ⟨by first | rfl | (simp [errW_none,errW_some] <;> rfl) | (simp [*,errW_none,errW_some] <;> rfl) | (simp [errW_none,errW_some];exact isEmpty_bne _),by repeat (first | (with_reducible first | exact HB.out | apply below_alloc | apply pw_below_drewN | apply below_drew1) | exact HB.out)⟩
    ·rw [if_neg c7] at H
     exact absurd H (by simp)
   ·rw [if_neg c6] at H
    exact absurd H (by simp)
 ·rw [if_neg c3] at H
  have c3b0 : (t126 == 0) = false:=beq_eq_false_iff_ne.mpr c3
  have c3b1 : (t126 != 0) = true:=bne_iff_ne.mpr c3
  simp only [Option.some.injEq,Prod.mk.injEq] at H
  obtain ⟨rfl,rfl,rfl⟩:=H
  go_enter Try.func37,Try.ntmps37
  go_wp2_with (first | (go_at_call 36;(with_reducible refine (varint_Take.calls k a0 t124 t125 t126 _ A2.out).mono ?_);rintro e w11 ⟨rfl,hb⟩;have n0_:=Aside0.mk (below_step (by repeat (first | (with_reducible first | exact HB.out | apply below_alloc | apply pw_below_drewN | apply below_drew1) | exact HB.out)) hb);clear HB;have HB:=n0_;clear n0_;(try clear hb);(try clear hb2);(try clear hk);(try clear hi)))
  repeat (go_quiet (first | (go_at_call 36;(with_reducible refine (varint_Take.calls k a0 t124 t125 t126 _ A2.out).mono ?_);rintro e w11 ⟨rfl,hb⟩;have n0_:=Aside0.mk (below_step (by repeat (first | (with_reducible first | exact HB.out | apply below_alloc | apply pw_below_drewN | apply below_drew1) | exact HB.out)) hb);clear HB;have HB:=n0_;clear n0_;(try clear hb);(try clear hb2);(try clear hk);(try clear hi)));try go_wp2_with (first | (go_at_call 36;(with_reducible refine (varint_Take.calls k a0 t124 t125 t126 _ A2.out).mono ?_);rintro e w11 ⟨rfl,hb⟩;have n0_:=Aside0.mk (below_step (by repeat (first | (with_reducible first | exact HB.out | apply below_alloc | apply pw_below_drewN | apply below_drew1) | exact HB.out)) hb);clear HB;have HB:=n0_;clear n0_;(try clear hb);(try clear hb2);(try clear hk);(try clear hi))))
  go_ret3
  exact ⟨by first | rfl | (simp [errW_none,errW_some] <;> rfl) | (simp [*,errW_none,errW_some] <;> rfl) | (simp [errW_none,errW_some];exact isEmpty_bne _),by repeat (first | (with_reducible first | exact HB.out | apply below_alloc | apply pw_below_drewN | apply below_drew1) | exact HB.out)⟩

/-! ### record_Read: function 13 -/
theorem four {w : World} {s : Nat} {v0 v1 v2 v3 : Value} {t : TypeId} (h : w.heap[s]? = some (.cells #[v0, v1, v2, v3] t)) :
    w.cell? ⟨s, 0, none⟩ = some v0 ∧ w.cell? ⟨s, 1, none⟩ = some v1 ∧ w.cell? ⟨s, 2, none⟩ = some v2 ∧ w.cell? ⟨s, 3, none⟩ = some v3 ∧ ∀ i, w.frozen? ⟨s, i, none⟩ = false := by
  refine ⟨?_, ?_, ?_, ?_, fun i => ?_⟩ <;> simp [World.cell?, World.frozen?, h]
theorem two {w : World} {s : Nat} {v0 v1 : Value} {t : TypeId} (h : w.heap[s]? = some (.cells #[v0, v1] t)) :
    w.cell? ⟨s, 0, none⟩ = some v0 ∧ w.cell? ⟨s, 1, none⟩ = some v1 ∧ ∀ i, w.frozen? ⟨s, i, none⟩ = false := by
  refine ⟨?_, ?_, fun i => ?_⟩ <;> simp [World.cell?, World.frozen?, h]
theorem blk_set_same {w : World} {s : Nat} {cs cs' : Array Value} {t : TypeId} (i : Nat) (v : Value) (h : w.heap[s]? = some (.cells cs t)) (e : cs.setIfInBounds i v = cs') : (w.setCell ⟨s, i, none⟩ v).heap[s]? = some (.cells cs' t) := by
  subst e
  simp [World.setCell, Array.getElem?_modify, h]
theorem blk_set_other {w : World} {s : Nat} {o : Obj} (h : w.heap[s]? = some o) (b i : Nat) (ha : s ≠ b) (v : Value) : (w.setCell ⟨b, i, none⟩ v).heap[s]? = some o := (Below.heap_setCell w ⟨b, i, none⟩ v s ha).trans h
theorem set4 {w : World} {s : Nat} {v0 v1 v2 v3 : Value} {t : TypeId} (x0 x1 x2 x3 : Value) (h : w.heap[s]? = some (.cells #[v0, v1, v2, v3] t)) :
    ((((w.setCell ⟨s, 0, none⟩ x0).setCell ⟨s, 1, none⟩ x1).setCell ⟨s, 2, none⟩ x2).setCell ⟨s, 3, none⟩ x3).heap[s]? = some (.cells #[x0, x1, x2, x3] t) :=
  blk_set_same 3 _ (blk_set_same 2 _ (blk_set_same 1 _ (blk_set_same 0 _ h rfl) rfl) rfl) rfl
theorem below4 {w w1 : World} {s : Nat} (h : Below w.heap.size w w1) (hs : w.heap.size ≤ s) (x0 x1 x2 x3 : Value) :
    Below w.heap.size w ((((w1.setCell ⟨s, 0, none⟩ x0).setCell ⟨s, 1, none⟩ x1).setCell ⟨s, 2, none⟩ x2).setCell ⟨s, 3, none⟩ x3) :=
  (((h.setCell hs x0).setCell hs x1).setCell hs x2).setCell hs x3
theorem below_seq {B : Nat} {w w1 w2 : World} (h : Below B w w1) (hB : B ≤ w1.heap.size) (k : Below w1.heap.size w1 w2) : Below B w w2 := h.trans (k.mono hB)
set_option maxHeartbeats 1600000 in
set_option maxRecDepth 100000 in
theorem record_Read.early (k : Nat) (a0 : ByteArray) (n : Int) (b1 : ByteArray) (e1 : Int) (w : World) (h1 : varint_Take.f k a0 = some (n, b1, e1)) (he : ¬ e1 = 0) :
    Calls Try.prog 13 #[.string a0] w fun e w' => e = .returned (.tuple #[.agg #[.int .u64 0, .string ⟨#[]⟩, .string ⟨#[]⟩, .bool false], .string ⟨#[]⟩, .int .i64 e1]) ∧ Below w.heap.size w w' := by
  have H1 := Aside0.mk h1
  clear h1
  go_enter Try.func13, Try.ntmps13
  go_wp2_with fail
  refine (varint_Take.calls k a0 n b1 e1 _ H1.out).mono ?_
  rintro e w1 ⟨rfl, hb1⟩
  have o1 := blk_below (blk_new _ _) hb1
  have B1 := below_seq ((Below.refl w.heap.size w).alloc (Nat.le_refl _) _) (by simp) hb1
  have z1 : w.heap.size < w1.heap.size := blk_lt o1
  obtain ⟨c0, c1, c2, c3, hf⟩ := four o1
  clear hb1
  go_wp2_with fail
  refine bodyPost_ret (results_ctt rfl _ _ w.heap.size 24 #[.int .u64 0, .string ⟨#[]⟩, .string ⟨#[]⟩, .bool false] (0, 0) _ rfl (set4 _ _ _ _ o1) Try.underlying24 rfl rfl) rfl ⟨rfl, below4 B1 (Nat.le_refl _) _ _ _ _⟩
set_option maxHeartbeats 1600000 in
set_option maxRecDepth 100000 in
theorem record_Read.first (k : Nat) (a0 : ByteArray) (n : Int) (b1 key b2 : ByteArray) (e2 : Int) (w : World) (h1 : varint_Take.f k a0 = some (n, b1, 0)) (hg : (Go.bits .and .u64 n 1 == 1) = false) (h2 : varint_OfText.f k b1 = some (key, b2, e2)) (he : ¬ e2 = 0) :
    Calls Try.prog 13 #[.string a0] w fun e w' => e = .returned (.tuple #[.agg #[.int .u64 0, .string ⟨#[]⟩, .string ⟨#[]⟩, .bool false], .string ⟨#[]⟩, .int .i64 e2]) ∧ Below w.heap.size w w' := by
  have H1 := Aside0.mk h1
  clear h1
  have H2 := Aside0.mk h2
  clear h2
  go_enter Try.func13, Try.ntmps13
  go_wp2_with fail
  refine (varint_Take.calls k a0 n b1 0 _ H1.out).mono ?_
  rintro e w1 ⟨rfl, hb1⟩
  have o1 := blk_below (blk_new _ _) hb1
  have B1 := below_seq ((Below.refl w.heap.size w).alloc (Nat.le_refl _) _) (by simp) hb1
  have z1 : w.heap.size < w1.heap.size := blk_lt o1
  obtain ⟨c0, c1, c2, c3, hf⟩ := four o1
  clear hb1
  go_wp2_with fail
  refine wp_loop_rounds 3 ?_
  rw [rounds_succ]
  go_wp2_with fail
  refine (varint_OfText.calls k b1 key b2 e2 _ H2.out).mono ?_
  rintro e w2 ⟨rfl, hb2⟩
  have o2 := blk_below (blk_alloc (blk_alloc o1 _) _) hb2
  have r2 : w2.heap[w1.heap.size]? = some (.cells #[.int .u64 (n / 2), .string ⟨#[]⟩, .string ⟨#[]⟩, .bool false] 24) := blk_below (blk_alloc (blk_new w1 _) _) hb2
  have t2 : w2.heap[w1.heap.size + 1]? = some (.cells #[.pointer (some ⟨w1.heap.size, 1, none⟩), .pointer (some ⟨w1.heap.size, 2, none⟩)] 59) := by
    refine blk_below ?_ hb2
    have := heap_alloc_new (w1.alloc (.cells #[.int .u64 (n / 2), .string ⟨#[]⟩, .string ⟨#[]⟩, .bool false] 24)) (.cells #[.pointer (some ⟨w1.heap.size, 1, none⟩), .pointer (some ⟨w1.heap.size, 2, none⟩)] 59)
    simpa using this
  have B2 := below_seq ((B1.alloc (by omega) _).alloc (by simp; omega) _) (by simp; omega) hb2
  have z2 : w1.heap.size + 1 < w2.heap.size := blk_lt t2
  obtain ⟨p0, p1, p2, p3, pf⟩ := four o2
  obtain ⟨q0, q1, q2, q3, qf⟩ := four r2
  obtain ⟨s0, s1, sf⟩ := two t2
  clear hb2 c0 c1 c2 c3 hf
  go_wp2_with fail
  refine bodyPost_ret (results_ctt rfl _ _ w.heap.size 24 #[.int .u64 0, .string ⟨#[]⟩, .string ⟨#[]⟩, .bool false] (0, 0) _ rfl (set4 _ _ _ _ (blk_set_other o2 _ _ (by omega) _)) Try.underlying24 rfl rfl) rfl ⟨rfl, below4 (Below.setCell B2 (by show w.heap.size ≤ w1.heap.size; omega) _) (Nat.le_refl _) _ _ _ _⟩
set_option maxHeartbeats 1600000 in
set_option maxRecDepth 100000 in
theorem record_Read.goneFirst (k : Nat) (a0 : ByteArray) (n : Int) (b1 key b2 : ByteArray) (e2 : Int) (w : World) (h1 : varint_Take.f k a0 = some (n, b1, 0)) (hg : (Go.bits .and .u64 n 1 == 1) = true) (h2 : varint_OfText.f k b1 = some (key, b2, e2)) (he : ¬ e2 = 0) :
    Calls Try.prog 13 #[.string a0] w fun e w' => e = .returned (.tuple #[.agg #[.int .u64 0, .string ⟨#[]⟩, .string ⟨#[]⟩, .bool false], .string ⟨#[]⟩, .int .i64 e2]) ∧ Below w.heap.size w w' := by
  have H1 := Aside0.mk h1
  clear h1
  have H2 := Aside0.mk h2
  clear h2
  go_enter Try.func13, Try.ntmps13
  go_wp2_with fail
  refine (varint_Take.calls k a0 n b1 0 _ H1.out).mono ?_
  rintro e w1 ⟨rfl, hb1⟩
  have o1 := blk_below (blk_new _ _) hb1
  have B1 := below_seq ((Below.refl w.heap.size w).alloc (Nat.le_refl _) _) (by simp) hb1
  have z1 : w.heap.size < w1.heap.size := blk_lt o1
  obtain ⟨c0, c1, c2, c3, hf⟩ := four o1
  clear hb1
  go_wp2_with fail
  refine wp_loop_rounds 2 ?_
  rw [rounds_succ]
  go_wp2_with fail
  refine (varint_OfText.calls k b1 key b2 e2 _ H2.out).mono ?_
  rintro e w2 ⟨rfl, hb2⟩
  have o2 := blk_below (blk_alloc (blk_alloc o1 _) _) hb2
  have r2 : w2.heap[w1.heap.size]? = some (.cells #[.int .u64 (n / 2), .string ⟨#[]⟩, .string ⟨#[]⟩, .bool true] 24) := blk_below (blk_alloc (blk_new w1 _) _) hb2
  have t2 : w2.heap[w1.heap.size + 1]? = some (.cells #[.pointer (some ⟨w1.heap.size, 1, none⟩), .pointer (some ⟨w1.heap.size, 2, none⟩)] 59) := by
    refine blk_below ?_ hb2
    have := heap_alloc_new (w1.alloc (.cells #[.int .u64 (n / 2), .string ⟨#[]⟩, .string ⟨#[]⟩, .bool true] 24)) (.cells #[.pointer (some ⟨w1.heap.size, 1, none⟩), .pointer (some ⟨w1.heap.size, 2, none⟩)] 59)
    simpa using this
  have B2 := below_seq ((B1.alloc (by omega) _).alloc (by simp; omega) _) (by simp; omega) hb2
  have z2 : w1.heap.size + 1 < w2.heap.size := blk_lt t2
  obtain ⟨p0, p1, p2, p3, pf⟩ := four o2
  obtain ⟨q0, q1, q2, q3, qf⟩ := four r2
  obtain ⟨s0, s1, sf⟩ := two t2
  clear hb2 c0 c1 c2 c3 hf
  go_wp2_with fail
  refine bodyPost_ret (results_ctt rfl _ _ w.heap.size 24 #[.int .u64 0, .string ⟨#[]⟩, .string ⟨#[]⟩, .bool false] (0, 0) _ rfl (set4 _ _ _ _ (blk_set_other o2 _ _ (by omega) _)) Try.underlying24 rfl rfl) rfl ⟨rfl, below4 (Below.setCell B2 (by show w.heap.size ≤ w1.heap.size; omega) _) (Nat.le_refl _) _ _ _ _⟩
set_option maxHeartbeats 1600000 in
set_option maxRecDepth 100000 in
theorem record_Read.gone (k : Nat) (a0 : ByteArray) (n : Int) (b1 key b2 : ByteArray) (ok : Bool) (w : World) (h1 : varint_Take.f k a0 = some (n, b1, 0)) (hg : (Go.bits .and .u64 n 1 == 1) = true) (h2 : varint_OfText.f k b1 = some (key, b2, 0)) (h4 : record_Right.f k (n / 2) key ⟨#[]⟩ true = some ok) :
    Calls Try.prog 13 #[.string a0] w fun e w' => e = .returned (if ok then .tuple #[.agg #[.int .u64 (n / 2), .string key, .string ⟨#[]⟩, .bool true], .string b2, .int .i64 0] else .tuple #[.agg #[.int .u64 0, .string ⟨#[]⟩, .string ⟨#[]⟩, .bool false], .string ⟨#[]⟩, .int .i64 2]) ∧ Below w.heap.size w w' := by
  have H1 := Aside0.mk h1
  clear h1
  have H2 := Aside0.mk h2
  clear h2
  have H4 := Aside0.mk h4
  clear h4
  go_enter Try.func13, Try.ntmps13
  go_wp2_with fail
  refine (varint_Take.calls k a0 n b1 0 _ H1.out).mono ?_
  rintro e w1 ⟨rfl, hb1⟩
  have o1 := blk_below (blk_new _ _) hb1
  have B1 := below_seq ((Below.refl w.heap.size w).alloc (Nat.le_refl _) _) (by simp) hb1
  have z1 : w.heap.size < w1.heap.size := blk_lt o1
  obtain ⟨c0, c1, c2, c3, hf⟩ := four o1
  clear hb1
  go_wp2_with fail
  refine wp_loop_rounds 2 ?_
  rw [rounds_succ]
  go_wp2_with fail
  refine (varint_OfText.calls k b1 key b2 0 _ H2.out).mono ?_
  rintro e w2 ⟨rfl, hb2⟩
  have o2 := blk_below (blk_alloc (blk_alloc o1 _) _) hb2
  have r2 : w2.heap[w1.heap.size]? = some (.cells #[.int .u64 (n / 2), .string ⟨#[]⟩, .string ⟨#[]⟩, .bool true] 24) := blk_below (blk_alloc (blk_new w1 _) _) hb2
  have t2 : w2.heap[w1.heap.size + 1]? = some (.cells #[.pointer (some ⟨w1.heap.size, 1, none⟩), .pointer (some ⟨w1.heap.size, 2, none⟩)] 59) := by
    refine blk_below ?_ hb2
    have := heap_alloc_new (w1.alloc (.cells #[.int .u64 (n / 2), .string ⟨#[]⟩, .string ⟨#[]⟩, .bool true] 24)) (.cells #[.pointer (some ⟨w1.heap.size, 1, none⟩), .pointer (some ⟨w1.heap.size, 2, none⟩)] 59)
    simpa using this
  have B2 := below_seq ((B1.alloc (by omega) _).alloc (by simp; omega) _) (by simp; omega) hb2
  have z2 : w1.heap.size + 1 < w2.heap.size := blk_lt t2
  obtain ⟨p0, p1, p2, p3, pf⟩ := four o2
  obtain ⟨q0, q1, q2, q3, qf⟩ := four r2
  obtain ⟨s0, s1, sf⟩ := two t2
  clear hb2 c0 c1 c2 c3 hf
  go_wp2_with fail
  rw [rounds_succ]
  go_wp2_with fail
  refine (record_Right.calls k (n / 2) key ⟨#[]⟩ true ok _ H4.out).mono ?_
  rintro e w4 ⟨rfl, hb4⟩
  have o4 := blk_below (blk_set_other o2 _ _ (by omega) _) hb4
  have r4 : w4.heap[w1.heap.size]? = some (.cells #[.int .u64 (n / 2), .string key, .string ⟨#[]⟩, .bool true] 24) := blk_below (blk_set_same 1 (.string key) r2 rfl) hb4
  have z4 : w1.heap.size < w4.heap.size := blk_lt r4
  have B4 := below_seq (Below.setCell B2 (by show w.heap.size ≤ w1.heap.size; omega) _) (by simp; omega) hb4
  obtain ⟨u0, u1, u2, u3, uf⟩ := four o4
  obtain ⟨v0, v1, v2, v3, vf⟩ := four r4
  clear hb4 p0 p1 p2 p3 pf q0 q1 q2 q3 qf s0 s1 sf
  cases ok with
  | false =>
    go_wp2_with fail
    refine bodyPost_ret (results_ctt rfl _ _ w.heap.size 24 #[.int .u64 0, .string ⟨#[]⟩, .string ⟨#[]⟩, .bool false] (0, 0) _ rfl (set4 _ _ _ _ o4) Try.underlying24 rfl rfl) rfl ⟨rfl, below4 B4 (Nat.le_refl _) _ _ _ _⟩
  | true =>
    go_wp2_with fail
    refine bodyPost_ret (results_ctt rfl _ _ w.heap.size 24 #[.int .u64 (n / 2), .string key, .string ⟨#[]⟩, .bool true] (0, 0) _ rfl (set4 _ _ _ _ o4) Try.underlying24 rfl rfl) rfl ⟨rfl, below4 B4 (Nat.le_refl _) _ _ _ _⟩
set_option maxHeartbeats 1600000 in
set_option maxRecDepth 100000 in
theorem record_Read.second (k : Nat) (a0 : ByteArray) (n : Int) (b1 key b2 val b3 : ByteArray) (e3 : Int) (w : World) (h1 : varint_Take.f k a0 = some (n, b1, 0)) (hg : (Go.bits .and .u64 n 1 == 1) = false) (h2 : varint_OfText.f k b1 = some (key, b2, 0)) (h3 : varint_OfText.f k b2 = some (val, b3, e3)) (he : ¬ e3 = 0) :
    Calls Try.prog 13 #[.string a0] w fun e w' => e = .returned (.tuple #[.agg #[.int .u64 0, .string ⟨#[]⟩, .string ⟨#[]⟩, .bool false], .string ⟨#[]⟩, .int .i64 e3]) ∧ Below w.heap.size w w' := by
  have H1 := Aside0.mk h1
  clear h1
  have H2 := Aside0.mk h2
  clear h2
  have H3 := Aside0.mk h3
  clear h3
  go_enter Try.func13, Try.ntmps13
  go_wp2_with fail
  refine (varint_Take.calls k a0 n b1 0 _ H1.out).mono ?_
  rintro e w1 ⟨rfl, hb1⟩
  have o1 := blk_below (blk_new _ _) hb1
  have B1 := below_seq ((Below.refl w.heap.size w).alloc (Nat.le_refl _) _) (by simp) hb1
  have z1 : w.heap.size < w1.heap.size := blk_lt o1
  obtain ⟨c0, c1, c2, c3, hf⟩ := four o1
  clear hb1
  go_wp2_with fail
  refine wp_loop_rounds 3 ?_
  rw [rounds_succ]
  go_wp2_with fail
  refine (varint_OfText.calls k b1 key b2 0 _ H2.out).mono ?_
  rintro e w2 ⟨rfl, hb2⟩
  have o2 := blk_below (blk_alloc (blk_alloc o1 _) _) hb2
  have r2 : w2.heap[w1.heap.size]? = some (.cells #[.int .u64 (n / 2), .string ⟨#[]⟩, .string ⟨#[]⟩, .bool false] 24) := blk_below (blk_alloc (blk_new w1 _) _) hb2
  have t2 : w2.heap[w1.heap.size + 1]? = some (.cells #[.pointer (some ⟨w1.heap.size, 1, none⟩), .pointer (some ⟨w1.heap.size, 2, none⟩)] 59) := by
    refine blk_below ?_ hb2
    have := heap_alloc_new (w1.alloc (.cells #[.int .u64 (n / 2), .string ⟨#[]⟩, .string ⟨#[]⟩, .bool false] 24)) (.cells #[.pointer (some ⟨w1.heap.size, 1, none⟩), .pointer (some ⟨w1.heap.size, 2, none⟩)] 59)
    simpa using this
  have B2 := below_seq ((B1.alloc (by omega) _).alloc (by simp; omega) _) (by simp; omega) hb2
  have z2 : w1.heap.size + 1 < w2.heap.size := blk_lt t2
  obtain ⟨p0, p1, p2, p3, pf⟩ := four o2
  obtain ⟨q0, q1, q2, q3, qf⟩ := four r2
  obtain ⟨s0, s1, sf⟩ := two t2
  clear hb2 c0 c1 c2 c3 hf
  go_wp2_with fail
  rw [rounds_succ]
  go_wp2_with fail
  refine (varint_OfText.calls k b2 val b3 e3 _ H3.out).mono ?_
  rintro e w3 ⟨rfl, hb3⟩
  have o3 := blk_below (blk_set_other o2 _ _ (by omega) _) hb3
  have r3 : w3.heap[w1.heap.size]? = some (.cells #[.int .u64 (n / 2), .string key, .string ⟨#[]⟩, .bool false] 24) := blk_below (blk_set_same 1 (.string key) r2 rfl) hb3
  have t3 := blk_below (blk_set_other t2 w1.heap.size 1 (by omega) (.string key)) hb3
  have z3 : w1.heap.size + 1 < w3.heap.size := blk_lt t3
  have B3 := below_seq (Below.setCell B2 (by show w.heap.size ≤ w1.heap.size; omega) _) (by simp; omega) hb3
  clear hb3 p0 p1 p2 p3 pf q0 q1 q2 q3 qf s0 s1 sf
  obtain ⟨p0, p1, p2, p3, pf⟩ := four o3
  obtain ⟨q0, q1, q2, q3, qf⟩ := four r3
  obtain ⟨s0, s1, sf⟩ := two t3
  go_wp2_with fail
  refine bodyPost_ret (results_ctt rfl _ _ w.heap.size 24 #[.int .u64 0, .string ⟨#[]⟩, .string ⟨#[]⟩, .bool false] (0, 0) _ rfl (set4 _ _ _ _ (blk_set_other o3 _ _ (by omega) _)) Try.underlying24 rfl rfl) rfl ⟨rfl, below4 (Below.setCell B3 (by show w.heap.size ≤ w1.heap.size; omega) _) (Nat.le_refl _) _ _ _ _⟩
set_option maxHeartbeats 1600000 in
set_option maxRecDepth 100000 in
theorem record_Read.both (k : Nat) (a0 : ByteArray) (n : Int) (b1 key b2 val b3 : ByteArray) (ok : Bool) (w : World) (h1 : varint_Take.f k a0 = some (n, b1, 0)) (hg : (Go.bits .and .u64 n 1 == 1) = false) (h2 : varint_OfText.f k b1 = some (key, b2, 0)) (h3 : varint_OfText.f k b2 = some (val, b3, 0)) (h4 : record_Right.f k (n / 2) key val false = some ok) :
    Calls Try.prog 13 #[.string a0] w fun e w' => e = .returned (if ok then .tuple #[.agg #[.int .u64 (n / 2), .string key, .string val, .bool false], .string b3, .int .i64 0] else .tuple #[.agg #[.int .u64 0, .string ⟨#[]⟩, .string ⟨#[]⟩, .bool false], .string ⟨#[]⟩, .int .i64 2]) ∧ Below w.heap.size w w' := by
  have H1 := Aside0.mk h1
  clear h1
  have H2 := Aside0.mk h2
  clear h2
  have H4 := Aside0.mk h4
  clear h4
  have H3 := Aside0.mk h3
  clear h3
  go_enter Try.func13, Try.ntmps13
  go_wp2_with fail
  refine (varint_Take.calls k a0 n b1 0 _ H1.out).mono ?_
  rintro e w1 ⟨rfl, hb1⟩
  have o1 := blk_below (blk_new _ _) hb1
  have B1 := below_seq ((Below.refl w.heap.size w).alloc (Nat.le_refl _) _) (by simp) hb1
  have z1 : w.heap.size < w1.heap.size := blk_lt o1
  obtain ⟨c0, c1, c2, c3, hf⟩ := four o1
  clear hb1
  go_wp2_with fail
  refine wp_loop_rounds 3 ?_
  rw [rounds_succ]
  go_wp2_with fail
  refine (varint_OfText.calls k b1 key b2 0 _ H2.out).mono ?_
  rintro e w2 ⟨rfl, hb2⟩
  have o2 := blk_below (blk_alloc (blk_alloc o1 _) _) hb2
  have r2 : w2.heap[w1.heap.size]? = some (.cells #[.int .u64 (n / 2), .string ⟨#[]⟩, .string ⟨#[]⟩, .bool false] 24) := blk_below (blk_alloc (blk_new w1 _) _) hb2
  have t2 : w2.heap[w1.heap.size + 1]? = some (.cells #[.pointer (some ⟨w1.heap.size, 1, none⟩), .pointer (some ⟨w1.heap.size, 2, none⟩)] 59) := by
    refine blk_below ?_ hb2
    have := heap_alloc_new (w1.alloc (.cells #[.int .u64 (n / 2), .string ⟨#[]⟩, .string ⟨#[]⟩, .bool false] 24)) (.cells #[.pointer (some ⟨w1.heap.size, 1, none⟩), .pointer (some ⟨w1.heap.size, 2, none⟩)] 59)
    simpa using this
  have B2 := below_seq ((B1.alloc (by omega) _).alloc (by simp; omega) _) (by simp; omega) hb2
  have z2 : w1.heap.size + 1 < w2.heap.size := blk_lt t2
  obtain ⟨p0, p1, p2, p3, pf⟩ := four o2
  obtain ⟨q0, q1, q2, q3, qf⟩ := four r2
  obtain ⟨s0, s1, sf⟩ := two t2
  clear hb2 c0 c1 c2 c3 hf
  go_wp2_with fail
  rw [rounds_succ]
  go_wp2_with fail
  refine (varint_OfText.calls k b2 val b3 0 _ H3.out).mono ?_
  rintro e w3 ⟨rfl, hb3⟩
  have o3 := blk_below (blk_set_other o2 _ _ (by omega) _) hb3
  have r3 : w3.heap[w1.heap.size]? = some (.cells #[.int .u64 (n / 2), .string key, .string ⟨#[]⟩, .bool false] 24) := blk_below (blk_set_same 1 (.string key) r2 rfl) hb3
  have t3 := blk_below (blk_set_other t2 w1.heap.size 1 (by omega) (.string key)) hb3
  have z3 : w1.heap.size + 1 < w3.heap.size := blk_lt t3
  have B3 := below_seq (Below.setCell B2 (by show w.heap.size ≤ w1.heap.size; omega) _) (by simp; omega) hb3
  clear hb3 p0 p1 p2 p3 pf q0 q1 q2 q3 qf s0 s1 sf
  obtain ⟨p0, p1, p2, p3, pf⟩ := four o3
  obtain ⟨q0, q1, q2, q3, qf⟩ := four r3
  obtain ⟨s0, s1, sf⟩ := two t3
  go_wp2_with fail
  rw [rounds_succ]
  go_wp2_with fail
  refine (record_Right.calls k (n / 2) key val false ok _ H4.out).mono ?_
  rintro e w4 ⟨rfl, hb4⟩
  have o4 := blk_below (blk_set_other o3 _ _ (by omega) _) hb4
  have r4 : w4.heap[w1.heap.size]? = some (.cells #[.int .u64 (n / 2), .string key, .string val, .bool false] 24) := blk_below (blk_set_same 2 (.string val) r3 rfl) hb4
  have z4 : w1.heap.size < w4.heap.size := blk_lt r4
  have B4 := below_seq (Below.setCell B3 (by show w.heap.size ≤ w1.heap.size; omega) _) (by simp; omega) hb4
  obtain ⟨u0, u1, u2, u3, uf⟩ := four o4
  obtain ⟨v0, v1, v2, v3, vf⟩ := four r4
  clear hb4 p0 p1 p2 p3 pf q0 q1 q2 q3 qf s0 s1 sf
  cases ok with
  | false =>
    go_wp2_with fail
    refine bodyPost_ret (results_ctt rfl _ _ w.heap.size 24 #[.int .u64 0, .string ⟨#[]⟩, .string ⟨#[]⟩, .bool false] (0, 0) _ rfl (set4 _ _ _ _ o4) Try.underlying24 rfl rfl) rfl ⟨rfl, below4 B4 (Nat.le_refl _) _ _ _ _⟩
  | true =>
    go_wp2_with fail
    refine bodyPost_ret (results_ctt rfl _ _ w.heap.size 24 #[.int .u64 (n / 2), .string key, .string val, .bool false] (0, 0) _ rfl (set4 _ _ _ _ o4) Try.underlying24 rfl rfl) rfl ⟨rfl, below4 B4 (Nat.le_refl _) _ _ _ _⟩
def record_Read.f (k : Nat) (a0 : ByteArray) : Option (Int × ByteArray × ByteArray × Bool × ByteArray × Int) :=
  (varint_Take.f k a0).bind fun (n, b1, e1) => if e1 = 0 then (if (Go.bits .and .u64 n 1 == 1) = true
    then ((varint_OfText.f k b1).bind fun (key, b2, e2) => if e2 = 0 then ((record_Right.f k (n / 2) key ⟨#[]⟩ true).bind fun ok => if ok = true then some (n / 2, key, ⟨#[]⟩, true, b2, 0) else some (0, ⟨#[]⟩, ⟨#[]⟩, false, ⟨#[]⟩, 2)) else some (0, ⟨#[]⟩, ⟨#[]⟩, false, ⟨#[]⟩, e2))
    else ((varint_OfText.f k b1).bind fun (key, b2, e2) => if e2 = 0 then ((varint_OfText.f k b2).bind fun (val, b3, e3) => if e3 = 0 then ((record_Right.f k (n / 2) key val false).bind fun ok => if ok = true then some (n / 2, key, val, false, b3, 0) else some (0, ⟨#[]⟩, ⟨#[]⟩, false, ⟨#[]⟩, 2)) else some (0, ⟨#[]⟩, ⟨#[]⟩, false, ⟨#[]⟩, e3)) else some (0, ⟨#[]⟩, ⟨#[]⟩, false, ⟨#[]⟩, e2)))
    else some (0, ⟨#[]⟩, ⟨#[]⟩, false, ⟨#[]⟩, e1)
theorem record_Read.mono : ∀ a0 k, LeO (record_Read.f k a0) (record_Read.f (k + 1) a0) := by
  intro a0 k
  unfold record_Read.f
  repeat' first
      | (with_reducible exact varint_Take.mono _ _)
      | (with_reducible exact varint_OfText.mono _ _)
      | (with_reducible exact record_Right.mono _ _ _ _ _)
      | (with_reducible exact LeO.refl _)
      | (with_reducible refine LeO.ite ?_ ?_)
      | (with_reducible refine LeO.bind ?_ (fun _ => ?_))
theorem record_Read.calls (k : Nat) (a0 : ByteArray) (r1 : Int) (r2 r3 : ByteArray) (r4 : Bool) (r5 : ByteArray) (r6 : Int) (w : World) (h : record_Read.f k a0 = some (r1, r2, r3, r4, r5, r6)) :
    Calls Try.prog 13 #[.string a0] w fun e w' => e = .returned (.tuple #[.agg #[.int .u64 r1, .string r2, .string r3, .bool r4], .string r5, .int .i64 r6]) ∧ Below w.heap.size w w' := by
  unfold record_Read.f at h
  obtain ⟨⟨n, b1, e1⟩, h1, h⟩ := Option.bind_eq_some_iff.mp h
  simp only at h
  by_cases he1 : e1 = 0
  case neg =>
    rw [if_neg he1] at h
    cases h
    exact record_Read.early k a0 n b1 _ w h1 he1
  subst he1
  rw [if_pos rfl] at h
  cases hg : (Go.bits .and .u64 n 1 == 1) with
  | true =>
    rw [if_pos hg] at h
    obtain ⟨⟨key, b2, e2⟩, h2, h⟩ := Option.bind_eq_some_iff.mp h
    simp only at h
    by_cases he2 : e2 = 0
    case neg =>
      rw [if_neg he2] at h
      cases h
      exact record_Read.goneFirst k a0 n b1 key b2 _ w h1 hg h2 he2
    subst he2
    rw [if_pos rfl] at h
    obtain ⟨ok, h4, h⟩ := Option.bind_eq_some_iff.mp h
    have hx := record_Read.gone k a0 n b1 key b2 ok w h1 hg h2 h4
    cases ok <;> (cases h; exact hx)
  | false =>
    rw [if_neg (by rw [hg]; decide)] at h
    obtain ⟨⟨key, b2, e2⟩, h2, h⟩ := Option.bind_eq_some_iff.mp h
    simp only at h
    by_cases he2 : e2 = 0
    case neg =>
      rw [if_neg he2] at h
      cases h
      exact record_Read.first k a0 n b1 key b2 _ w h1 hg h2 he2
    subst he2
    rw [if_pos rfl] at h
    obtain ⟨⟨val, b3, e3⟩, h3, h⟩ := Option.bind_eq_some_iff.mp h
    simp only at h
    by_cases he3 : e3 = 0
    case neg =>
      rw [if_neg he3] at h
      cases h
      exact record_Read.second k a0 n b1 key b2 val b3 _ w h1 hg h2 h3 he3
    subst he3
    rw [if_pos rfl] at h
    obtain ⟨ok, h4, h⟩ := Option.bind_eq_some_iff.mp h
    have hx := record_Read.both k a0 n b1 key b2 val b3 ok w h1 hg h2 h3 h4
    cases ok <;> (cases h; exact hx)

end Go.Proofs.Ytnhmhdconmollaa.Print
