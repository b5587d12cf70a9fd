/- Written by a program of mine (give.py, over the kit's print) out of the translation: contracts of the Go functions. Lean checks it. -/
import Derived.Test.YtdjkkceamldmjaaPrint0
import Derived.Test.YtdjkkceamldmjaaPrint4
import Derived.Test.YtdjkkceamldmjaaPrint5
namespace Go.Proofs.Ytdjkkceamldmjaa.Print
open Go.RowKit Go.Proofs.YtdjkkceamldmjaaW.PrintWords Go.Proofs.YtdjkkceamldmjaaW.PrintLast Go.Proofs.YtdjkkceamldmjaaW.PrintMore
attribute [local go_sem] max2_int min2_int max_two min_two max_three min_three max_four min_four   -- for this text's walks alone
set_option linter.unusedVariables false
set_option linter.unusedSimpArgs false

/-! ### varint_Take: function 32 -/
def varint_Take.l0 : Nat → ByteArray → Int → Int → Option (Int × ByteArray × Int)
 | 0,_,_,_ => none
 | k + 1,x0,x5,x8 => if x8 < 10 then (if x8 = (x0.size : Int) then (some (0,(⟨#[]⟩ : ByteArray),3)) else (if 0 ≤ x8 then (if x8 < (x0.size : Int) then (if 0 ≤ (wrap64 (7 * x8)) then (if (bt x0 x8) ≥ 128 then (varint_Take.l0 k x0 (Go.bits .or .u64 x5 (shl .u64 (IntKind.u64.wrap (Go.bits .andNot .u8 (bt x0 x8) 128)) (wrap64 (7 * x8)))) (wrap64 (x8 + 1))) else ((varint_Put.f (Go.bits .or .u64 x5 (shl .u64 (IntKind.u64.wrap (Go.bits .andNot .u8 (bt x0 x8) 128)) (wrap64 (7 * x8))))).bind fun t113 => (if 0 ≤ (wrap64 (x8 + 1)) then (if (wrap64 (x8 + 1)) ≤ (x0.size : Int) then (if t113.toList = (x0.extract 0 ((wrap64 (x8 + 1)) : Int).toNat).toList then (some (Go.bits .or .u64 x5 (shl .u64 (IntKind.u64.wrap (Go.bits .andNot .u8 (bt x0 x8) 128)) (wrap64 (7 * x8))),x0.extract ((wrap64 (x8 + 1)) : Int).toNat x0.size,0)) else (some (0,(⟨#[]⟩ : ByteArray),2))) else (none)) else (none)))) else (none)) else (none)) else (none))) else (some (0,(⟨#[]⟩ : ByteArray),2))
def varint_Take.f (k : Nat) (a0 : ByteArray) : Option (Int × ByteArray × Int):=varint_Take.l0 k a0 0 0
theorem varint_Take.mono_l : ∀ k,(∀ y0 y1 y2,LeO (varint_Take.l0 k y0 y1 y2) (varint_Take.l0 (k + 1) y0 y1 y2))
 | 0 => fun _ _ _ r h => by simp [varint_Take.l0] at h
 | k + 1 => by
  have ih0:=varint_Take.mono_l k
  ·intro y0 y1 y2
   unfold varint_Take.l0
   repeat' first
   | (with_reducible exact ih0 _ _ _)
   | (with_reducible exact LeO.refl _)
   | (with_reducible exact LeO.none _)
   | (with_reducible refine LeO.ite ?_ ?_)
   | (with_reducible refine LeO.bind ?_ (fun _ => ?_))
   | exact ih0 _ _ _
   | exact LeO.none _
   | refine LeO.ite ?_ ?_
   | refine LeO.bind ?_ (fun _ => ?_)
theorem varint_Take.mono : ∀ a0 k,LeO (varint_Take.f k a0) (varint_Take.f (k + 1) a0):=by
 intro a0 k
 have ih0:=varint_Take.mono_l k
 unfold varint_Take.f
 repeat' first
   | (with_reducible exact ih0 _ _ _)
   | (with_reducible exact LeO.refl _)
   | (with_reducible exact LeO.none _)
   | (with_reducible refine LeO.ite ?_ ?_)
   | (with_reducible refine LeO.bind ?_ (fun _ => ?_))
   | exact ih0 _ _ _
   | exact LeO.none _
   | refine LeO.ite ?_ ?_
   | refine LeO.bind ?_ (fun _ => ?_)
def varint_Take.T12 : Bool × List (List Nat × List Nat):=(true,[([],[]),([],[]),([],[]),([2],[2]),([1,3],[1,3]),([0,0],[0]),([4,5,0,1,2,3,4,5],[4]),([6,0,1,2,3,4,5,6],[])])
def varint_Take.B12 : List Nat:=[0,0,0,4,14,1,63,127]
theorem varint_Take.tab12 : rtab .any (opsOf Try.f32 12) = varint_Take.T12:=by kernel_rfl
theorem varint_Take.bits12 : waitsOk varint_Take.T12.2 varint_Take.B12 = true:=by kernel_rfl
set_option maxHeartbeats 8000000 in
set_option maxRecDepth 100000 in
theorem varint_Take.calls (k : Nat) (a0 : ByteArray) (r1 : Int) (r2 : ByteArray) (r3 : Int) (w : World) (h : varint_Take.f k a0 = some (r1,r2,r3)) :
  Calls Try.prog 32 #[.string a0] w fun e w' => e = .returned (.tuple #[.int .u64 r1,.string r2,.int .i64 r3]) ∧ Below w.heap.size w w' := by
 have HB:=Aside0.mk (Below.refl w.heap.size w)
 have H : (varint_Take.l0 k a0 0 0) = some (r1,r2,r3):=h
 clear h
 have H' := Aside0.mk H
 clear H
 go_enter Try.func32,Try.ntmps32
 go_wp2
 go_loopg [5,8] k (fun kq v5 v8 w' => ∃ (x5_1 : Int) (x8_1 : Int),v5 = .int .u64 x5_1 ∧ v8 = .int .i64 x8_1 ∧ Aside0 (varint_Take.l0 kq a0 x5_1 x8_1 = some (r1,r2,r3)) ∧ Aside0 (kq ≤ k) ∧ Aside0 (Below w.heap.size w w'))
 case atStart => exact ⟨(0),(0),(by first | rfl | (simp;done) | (simp [*];done)),(by first | rfl | (simp;done) | (simp [*];done)),H',⟨Nat.le_refl _⟩,⟨by repeat (first | (with_reducible first | exact HB.out | apply below_alloc | apply pw_below_drewN | apply below_drew1) | exact HB.out)⟩⟩
 case round =>
  clear H'
  obtain ⟨x5_1,x8_1,rfl,rfl,HA,HK1,HB⟩:=hrel
  cases gk with
  | zero => exact absurd HA.out (by simp [varint_Take.l0])
  | succ k1 =>
   have H:=HA.out
   clear HA
   simp only [varint_Take.l0] at H
   by_cases c2 : x8_1 < 10
   ·rw [if_pos c2] at H
    have c2b0 : decide (x8_1 < 10) = true:=decide_eq_true c2
    clear c2
    by_cases c3 : x8_1 = (a0.size : Int)
    ·rw [if_pos c3] at H
     have c3b0 : (x8_1 == (a0.size : Int)) = true:=beq_iff_eq.mpr c3
     have c3b1 : (x8_1 != (a0.size : Int)) = false:=bne_eq_false_iff_eq.mpr c3
     clear c3
     simp only [Option.some.injEq,Prod.mk.injEq] at H
     obtain ⟨rfl,rfl,rfl⟩:=H
     go_wp2
     go_ret3
     exact ⟨by first | rfl | (simp [errW_none,errW_some] <;> rfl) | (simp [*,errW_none,errW_some] <;> rfl) | (simp [errW_none,errW_some];exact isEmpty_bne _),by repeat (first | (with_reducible first | exact HB.out | apply below_alloc | apply pw_below_drewN | apply below_drew1) | exact HB.out)⟩
    ·rw [if_neg c3] at H
     have c3b0 : (x8_1 == (a0.size : Int)) = false:=beq_eq_false_iff_ne.mpr c3
     have c3b1 : (x8_1 != (a0.size : Int)) = true:=bne_iff_ne.mpr c3
     by_cases c4 : 0 ≤ x8_1
     ·rw [if_pos c4] at H
      have c4b0 : decide (0 ≤ x8_1) = true:=decide_eq_true c4
      clear c4
      by_cases c5 : x8_1 < (a0.size : Int)
      ·rw [if_pos c5] at H
       have c5b0 : decide (x8_1 < (a0.size : Int)) = true:=decide_eq_true c5
       clear c5
       obtain ⟨ji7,hji7⟩ : ∃ j_ : Int,(wrap64 (7 * x8_1)) = j_:=⟨_,rfl⟩
       replace H : (if 0 ≤ (ji7) then (if (bt a0 x8_1) ≥ 128 then (varint_Take.l0 k1 a0 (Go.bits .or .u64 x5_1 (shl .u64 (IntKind.u64.wrap (Go.bits .andNot .u8 (bt a0 x8_1) 128)) (ji7))) (wrap64 (x8_1 + 1))) else ((varint_Put.f (Go.bits .or .u64 x5_1 (shl .u64 (IntKind.u64.wrap (Go.bits .andNot .u8 (bt a0 x8_1) 128)) (ji7)))).bind fun t113 => (if 0 ≤ (wrap64 (x8_1 + 1)) then (if (wrap64 (x8_1 + 1)) ≤ (a0.size : Int) then (if t113.toList = (a0.extract 0 ((wrap64 (x8_1 + 1)) : Int).toNat).toList then (some (Go.bits .or .u64 x5_1 (shl .u64 (IntKind.u64.wrap (Go.bits .andNot .u8 (bt a0 x8_1) 128)) (ji7)),a0.extract ((wrap64 (x8_1 + 1)) : Int).toNat a0.size,0)) else (some (0,(⟨#[]⟩ : ByteArray),2))) else (none)) else (none)))) else (none)) = some (r1,r2,r3):=by first | (rw [hji7] at H;exact H) | (simp only [hji7] at H ⊢;exact H)
       have hji7w : (IntKind.i64.wrap (7 * x8_1)) = ji7:=(i64_w _).trans hji7
       by_cases c8 : 0 ≤ (ji7)
       ·rw [if_pos c8] at H
        have c8b0:=eq_true c8
        have c8b1 : decide (0 ≤ (ji7)) = true:=decide_eq_true c8
        clear c8
        obtain ⟨ji9,hji9⟩ : ∃ j_ : Int,(shl .u64 (IntKind.u64.wrap (Go.bits .andNot .u8 (bt a0 x8_1) 128)) (ji7)) = j_:=⟨_,rfl⟩
        replace H : (if (bt a0 x8_1) ≥ 128 then (varint_Take.l0 k1 a0 (Go.bits .or .u64 x5_1 (ji9)) (wrap64 (x8_1 + 1))) else ((varint_Put.f (Go.bits .or .u64 x5_1 (ji9))).bind fun t113 => (if 0 ≤ (wrap64 (x8_1 + 1)) then (if (wrap64 (x8_1 + 1)) ≤ (a0.size : Int) then (if t113.toList = (a0.extract 0 ((wrap64 (x8_1 + 1)) : Int).toNat).toList then (some (Go.bits .or .u64 x5_1 (ji9),a0.extract ((wrap64 (x8_1 + 1)) : Int).toNat a0.size,0)) else (some (0,(⟨#[]⟩ : ByteArray),2))) else (none)) else (none)))) = some (r1,r2,r3):=by first | (rw [hji9] at H;exact H) | (simp only [hji9] at H ⊢;exact H)
        have hji9_ : (IntKind.u64.wrap ((IntKind.u64.wrap (Go.bits .andNot .u8 (bt a0 x8_1) 128)) * 2 ^ min (ji7).toNat 64)) = ji9:=hji9
        have hji9z : (ji7) ≤ 64 → (IntKind.u64.wrap ((IntKind.u64.wrap (Go.bits .andNot .u8 (bt a0 x8_1) 128)) * 2 ^ (ji7).toNat)) = ji9:=shl_small hji9
        by_cases c10 : (bt a0 x8_1) ≥ 128
        ·rw [if_pos c10] at H
         have c10b0 : decide (128 ≤ (bt a0 x8_1)) = true:=decide_eq_true c10
         clear c10
         have H' := Aside0.mk H
         clear H
         have p6 : 0 ≤ (x8_1 : Int):=of_decide_eq_true (by first | (with_reducible assumption) | assumption)
         have q6 : x8_1 < (a0.size : Int):=of_decide_eq_true (by first | (with_reducible assumption) | assumption)
         have hx6:=bt_at a0 x8_1
         replace p6:=eq_true p6
         replace q6:=eq_true q6
         go_wp2
         go_roundg k1
         case measure => have:=HK1.out;omega
         case rel => exact ⟨(Go.bits .or .u64 x5_1 (ji9)),(wrap64 (x8_1 + 1)),(by first | rfl | (simp;done) | (simp only [← hji9] <;> (first | rfl | simp)) | (simp [*];done)),(by first | rfl | (simp;done) | (simp [*];done)),H',⟨by have:=HK1.out;omega⟩,⟨by repeat (first | (with_reducible first | exact HB.out | apply below_alloc | apply pw_below_drewN | apply below_drew1) | exact HB.out)⟩⟩
        ·rw [if_neg c10] at H
         have c10b0 : decide (128 ≤ (bt a0 x8_1)) = false:=decide_eq_false c10
         clear c10
         replace H:=Option.bind_eq_some_iff.mp H
         obtain ⟨t113,A110,H⟩:=H
         replace H : (if 0 ≤ (wrap64 (x8_1 + 1)) then (if (wrap64 (x8_1 + 1)) ≤ (a0.size : Int) then (if t113.toList = (a0.extract 0 ((wrap64 (x8_1 + 1)) : Int).toNat).toList then (some (Go.bits .or .u64 x5_1 (ji9),a0.extract ((wrap64 (x8_1 + 1)) : Int).toNat a0.size,0)) else (some (0,(⟨#[]⟩ : ByteArray),2))) else (none)) else (none)) = some (r1,r2,r3):=H
         have A11:=Aside0.mk A110
         clear A110
         obtain ⟨ji12,hji12⟩ : ∃ j_ : Int,(wrap64 (x8_1 + 1)) = j_:=⟨_,rfl⟩
         replace H : (if 0 ≤ (ji12) then (if (ji12) ≤ (a0.size : Int) then (if t113.toList = (a0.extract 0 ((ji12) : Int).toNat).toList then (some (Go.bits .or .u64 x5_1 (ji9),a0.extract ((ji12) : Int).toNat a0.size,0)) else (some (0,(⟨#[]⟩ : ByteArray),2))) else (none)) else (none)) = some (r1,r2,r3):=by first | (rw [hji12] at H;exact H) | (simp only [hji12] at H ⊢;exact H)
         (try rw [hji12] at A11)
         have hji12w : (IntKind.i64.wrap (x8_1 + 1)) = ji12:=(i64_w _).trans hji12
         by_cases c13 : 0 ≤ (ji12)
         ·rw [if_pos c13] at H
          have c13b0:=eq_true c13
          have c13b1 : decide (0 ≤ (ji12)) = true:=decide_eq_true c13
          clear c13
          by_cases c14 : (ji12) ≤ (a0.size : Int)
          ·rw [if_pos c14] at H
           have c14b0:=eq_true c14
           have c14b1 : decide ((ji12) ≤ (a0.size : Int)) = true:=decide_eq_true c14
           clear c14
           by_cases c15 : t113.toList = (a0.extract 0 ((ji12) : Int).toNat).toList
           ·rw [if_pos c15] at H
            have c15b0 : (t113.toList == (a0.extract 0 ((ji12) : Int).toNat).toList) = true:=beq_iff_eq.mpr c15
            have c15b1 : (t113.toList != (a0.extract 0 ((ji12) : Int).toNat).toList) = false:=bne_eq_false_iff_eq.mpr c15
            clear c15
            have c16b0:=eq_true (of_decide_eq_true (by first | (with_reducible assumption) | assumption) : 0 ≤ (ji12))
            have c17b0:=eq_true (of_decide_eq_true (by first | (with_reducible assumption) | assumption) : (ji12) ≤ (a0.size : Int))
            simp only [Option.some.injEq,Prod.mk.injEq] at H
            obtain ⟨rfl,rfl,rfl⟩:=H
            have p6 : 0 ≤ (x8_1 : Int):=of_decide_eq_true (by first | (with_reducible assumption) | assumption)
            have q6 : x8_1 < (a0.size : Int):=of_decide_eq_true (by first | (with_reducible assumption) | assumption)
            have hx6:=bt_at a0 x8_1
            replace p6:=eq_true p6
            replace q6:=eq_true q6
            try go_wp2
            have n0_:=Aside0.mk (below_drew1 HB.out)
            clear HB
            have HB:=n0_
            clear n0_
            refine start_ (n:=7) (S:=fun w' => True) (ds:=[]) #[false,false,false,false,false,false,false] (by kernel_rfl) rfl rfl trivial (fun hHeld => ?_)
            generalize wr.drew = w18 at HB hHeld ⊢
            refine pure_ (i:=0) (N:=some 28) (v := ?_) (a' := ?_) #[true,false,false,false,false,false,false] rfl rfl (by kernel_rfl) (fun _ _ _ h => h) (Or.inl ⟨by rfl,?_⟩) ?_ ?_
            rotate_left
            ·intro w'
             go_simp
             with_reducible rfl
            rotate_left
            ·simp only [Act.put,List.setIfInBounds_toArray,List.set_cons_zero,List.set_cons_succ,i64_w,i32_w]
             rfl
            refine pure_ (i:=2) (N:=some 30) (v := ?_) (a' := ?_) #[true,false,true,false,false,false,false] rfl rfl (by kernel_rfl) (fun _ _ _ h => h) (Or.inl ⟨by rfl,?_⟩) ?_ ?_
            rotate_left
            ·intro w'
             go_simp
             with_reducible rfl
            rotate_left
            ·simp only [Act.put,List.setIfInBounds_toArray,List.set_cons_zero,List.set_cons_succ,i64_w,i32_w]
             rfl
            refine pure_ (i:=3) (N:=some 31) (v := ?_) (a' := ?_) #[true,false,true,true,false,false,false] rfl rfl (by kernel_rfl) (fun _ _ _ h => h) (Or.inl ⟨by rfl,?_⟩) ?_ ?_
            rotate_left
            ·intro w'
             go_simp
             with_reducible rfl
            rotate_left
            ·simp only [Act.put,List.setIfInBounds_toArray,List.set_cons_zero,List.set_cons_succ,i64_w,i32_w]
             rfl
            refine pure_ (i:=4) (N:=some 32) (v := ?_) (a' := ?_) #[true,false,true,true,true,false,false] rfl rfl (by kernel_rfl) (fun _ _ _ h => h) (Or.inl ⟨by rfl,?_⟩) ?_ ?_
            rotate_left
            ·intro w'
             go_simp
             with_reducible rfl
            rotate_left
            ·simp only [Act.put,List.setIfInBounds_toArray,List.set_cons_zero,List.set_cons_succ,i64_w,i32_w]
             rfl
            refine pure_ (i:=5) (N:=some 33) (v := ?_) (a' := ?_) #[true,false,true,true,true,true,false] rfl rfl (by kernel_rfl) (fun _ _ _ h => h) (Or.inl ⟨by rfl,?_⟩) ?_ ?_
            rotate_left
            ·intro w'
             go_simp
             with_reducible rfl
            rotate_left
            ·simp only [Act.put,List.setIfInBounds_toArray,List.set_cons_zero,List.set_cons_succ,i64_w,i32_w]
             rfl
            refine one_ (i:=1) (N:=some 29) #[true,true,true,true,true,true,false] rfl rfl (by kernel_rfl) (by decide) (fun K hK => ?_)
            refine goes_ Try.func22 (by kernel_rfl) rfl #[.int .u64 (Go.bits .or .u64 x5_1 (ji9))] (by rfl) rfl rfl (by (try simp only [List.map_toArray,List.map_cons,List.map_nil]);first | done | (simp only [hji9];rfl) | rfl | (simp only [List.length_drop,List.length_take];rfl)) ?_
            with_reducible refine (varint_Put.calls (Go.bits .or .u64 x5_1 (ji9)) t113 _ A11.out).mono ?_
            rintro e w19 ⟨rfl,hb⟩
            refine ⟨_,rfl,?_⟩
            have n0_:=Aside0.mk (below_step (by repeat (first | (with_reducible first | exact HB.out | apply below_alloc | apply pw_below_drewN | apply below_drew1) | exact HB.out)) hb)
            clear HB
            have HB:=n0_
            clear n0_
            (try clear hb)
            (try clear hb2)
            (try clear hk)
            (try clear hi)
            refine hK.out _ _ trivial (fun hHeld => ?_)
            clear hK K
            refine norm_ (a' := ?_) ?_ ?_
            rotate_left
            ·show Act.put _ (some 29) _ = _
             simp only [Act.put,List.setIfInBounds_toArray,List.set_cons_zero,List.set_cons_succ,i64_w,i32_w]
             rfl
            refine pure_ (i:=6) (N:=some 34) (v := ?_) (a' := ?_) #[true,true,true,true,true,true,true] rfl rfl (by kernel_rfl) (fun _ _ _ h => h) (Or.inl ⟨by rfl,?_⟩) ?_ ?_
            rotate_left
            ·intro w'
             go_simp
             with_reducible rfl
            rotate_left
            ·simp only [Act.put,List.setIfInBounds_toArray,List.set_cons_zero,List.set_cons_succ,i64_w,i32_w]
             rfl
            refine done_ (by kernel_rfl) ?_
            try go_wp2
            have n0_:=Aside0.mk (below_drew1 HB.out)
            clear HB
            have HB:=n0_
            clear n0_
            refine start_ (n:=8) (S:=fun w' => True) (ds:=[]) #[false,false,false,false,false,false,false,false] (by kernel_rfl) rfl rfl trivial (fun hHeld => ?_);refine with_tabW varint_Take.tab12 varint_Take.bits12 (fun HT_ HW_ => ?_)
            generalize w19.drew = w20 at HB hHeld ⊢
            refine pure_ (i:=0) (N:=some 35) (v := ?_) (a' := ?_) #[true,false,false,false,false,false,false,false] rfl rfl (any_of HT_.out (by kernel_rfl)) (fun _ _ _ h => h) (Or.inl ⟨by rfl,?_⟩) ?_ ?_
            rotate_left
            ·intro w'
             go_simp
             with_reducible rfl
            rotate_left
            ·simp only [Act.put,List.setIfInBounds_toArray,List.set_cons_zero,List.set_cons_succ,i64_w,i32_w]
             rfl
            refine pure_ (i:=1) (N:=some 36) (v := ?_) (a' := ?_) #[true,true,false,false,false,false,false,false] rfl rfl (any_of HT_.out (by kernel_rfl)) (fun _ _ _ h => h) (Or.inl ⟨by rfl,?_⟩) ?_ ?_
            rotate_left
            ·intro w'
             go_simp
             with_reducible rfl
            rotate_left
            ·simp only [Act.put,List.setIfInBounds_toArray,List.set_cons_zero,List.set_cons_succ,i64_w,i32_w]
             rfl
            refine pure_ (i:=2) (N:=some 37) (v := ?_) (a' := ?_) #[true,true,true,false,false,false,false,false] rfl rfl (any_of HT_.out (by kernel_rfl)) (fun _ _ _ h => h) (Or.inl ⟨by rfl,?_⟩) ?_ ?_
            rotate_left
            ·intro w'
             go_simp
             with_reducible rfl
            rotate_left
            ·simp only [Act.put,List.setIfInBounds_toArray,List.set_cons_zero,List.set_cons_succ,i64_w,i32_w]
             rfl
            refine pure_ (i:=3) (N:=some 38) (v := ?_) (a' := ?_) #[true,true,true,true,false,false,false,false] rfl rfl (any_of HT_.out (by kernel_rfl)) (fun _ _ _ h => h) (Or.inl ⟨by rfl,?_⟩) ?_ ?_
            rotate_left
            ·intro w'
             go_simp
             with_reducible rfl
            rotate_left
            ·simp only [Act.put,List.setIfInBounds_toArray,List.set_cons_zero,List.set_cons_succ,i64_w,i32_w]
             rfl
            refine pure_ (i:=4) (N:=some 39) (v := ?_) (a' := ?_) #[true,true,true,true,true,false,false,false] rfl rfl (any_of HT_.out (by kernel_rfl)) (fun _ _ _ h => h) (Or.inl ⟨by rfl,?_⟩) ?_ ?_
            rotate_left
            ·intro w'
             go_simp
             with_reducible rfl
            rotate_left
            ·simp only [Act.put,List.setIfInBounds_toArray,List.set_cons_zero,List.set_cons_succ,i64_w,i32_w]
             rfl
            refine pure_ (i:=5) (N:=some 2) (v := ?_) (a' := ?_) #[true,true,true,true,true,true,false,false] rfl rfl (any_of HT_.out (by kernel_rfl)) (fun _ _ _ h => h) (Or.inl ⟨by rfl,?_⟩) ?_ ?_
            rotate_left
            ·intro w'
             go_simp
             with_reducible rfl
            rotate_left
            ·simp only [Act.put,List.setIfInBounds_toArray,List.set_cons_zero,List.set_cons_succ,i64_w,i32_w]
             rfl
            refine pure_ (i:=6) (N:=some 3) (v := ?_) (a' := ?_) #[true,true,true,true,true,true,true,false] rfl rfl (any_of HT_.out (by kernel_rfl)) (fun _ _ _ h => h) (Or.inl ⟨by rfl,?_⟩) ?_ ?_
            rotate_left
            ·intro w'
             go_simp
             with_reducible rfl
            rotate_left
            ·simp only [Act.put,List.setIfInBounds_toArray,List.set_cons_zero,List.set_cons_succ,i64_w,i32_w]
             rfl
            refine pure_ (i:=7) (N:=some 4) (v := ?_) (a' := ?_) #[true,true,true,true,true,true,true,true] rfl rfl (any_of HT_.out (by kernel_rfl)) (fun _ _ _ h => h) (Or.inl ⟨by rfl,?_⟩) ?_ ?_
            rotate_left
            ·intro w'
             go_simp
             with_reducible rfl
            rotate_left
            ·simp only [Act.put,List.setIfInBounds_toArray,List.set_cons_zero,List.set_cons_succ,i64_w,i32_w]
             rfl
            refine done_ (done_of HT_.out (by kernel_rfl)) ?_
            try go_wp2
            go_ret3
            exact ⟨by first | rfl | (simp [errW_none,errW_some] <;> rfl) | (simp only [← hji7,← hji9,← hji12];first | rfl | (simp [errW_none,errW_some] <;> rfl)) | (simp [*,errW_none,errW_some] <;> rfl) | (simp [errW_none,errW_some];exact isEmpty_bne _),by repeat (first | (with_reducible first | exact HB.out | apply below_alloc | apply pw_below_drewN | apply below_drew1) | exact HB.out)⟩
           ·rw [if_neg c15] at H
            have c15b0 : (t113.toList == (a0.extract 0 ((ji12) : Int).toNat).toList) = false:=beq_eq_false_iff_ne.mpr c15
            have c15b1 : (t113.toList != (a0.extract 0 ((ji12) : Int).toNat).toList) = true:=bne_iff_ne.mpr c15
            simp only [Option.some.injEq,Prod.mk.injEq] at H
            obtain ⟨rfl,rfl,rfl⟩:=H
            have p6 : 0 ≤ (x8_1 : Int):=of_decide_eq_true (by first | (with_reducible assumption) | assumption)
            have q6 : x8_1 < (a0.size : Int):=of_decide_eq_true (by first | (with_reducible assumption) | assumption)
            have hx6:=bt_at a0 x8_1
            replace p6:=eq_true p6
            replace q6:=eq_true q6
            try go_wp2
            have n0_:=Aside0.mk (below_drew1 HB.out)
            clear HB
            have HB:=n0_
            clear n0_
            refine start_ (n:=7) (S:=fun w' => True) (ds:=[]) #[false,false,false,false,false,false,false] (by kernel_rfl) rfl rfl trivial (fun hHeld => ?_)
            generalize wr.drew = w21 at HB hHeld ⊢
            refine pure_ (i:=0) (N:=some 28) (v := ?_) (a' := ?_) #[true,false,false,false,false,false,false] rfl rfl (by kernel_rfl) (fun _ _ _ h => h) (Or.inl ⟨by rfl,?_⟩) ?_ ?_
            rotate_left
            ·intro w'
             go_simp
             with_reducible rfl
            rotate_left
            ·simp only [Act.put,List.setIfInBounds_toArray,List.set_cons_zero,List.set_cons_succ,i64_w,i32_w]
             rfl
            refine pure_ (i:=2) (N:=some 30) (v := ?_) (a' := ?_) #[true,false,true,false,false,false,false] rfl rfl (by kernel_rfl) (fun _ _ _ h => h) (Or.inl ⟨by rfl,?_⟩) ?_ ?_
            rotate_left
            ·intro w'
             go_simp
             with_reducible rfl
            rotate_left
            ·simp only [Act.put,List.setIfInBounds_toArray,List.set_cons_zero,List.set_cons_succ,i64_w,i32_w]
             rfl
            refine pure_ (i:=3) (N:=some 31) (v := ?_) (a' := ?_) #[true,false,true,true,false,false,false] rfl rfl (by kernel_rfl) (fun _ _ _ h => h) (Or.inl ⟨by rfl,?_⟩) ?_ ?_
            rotate_left
            ·intro w'
             go_simp
             with_reducible rfl
            rotate_left
            ·simp only [Act.put,List.setIfInBounds_toArray,List.set_cons_zero,List.set_cons_succ,i64_w,i32_w]
             rfl
            refine pure_ (i:=4) (N:=some 32) (v := ?_) (a' := ?_) #[true,false,true,true,true,false,false] rfl rfl (by kernel_rfl) (fun _ _ _ h => h) (Or.inl ⟨by rfl,?_⟩) ?_ ?_
            rotate_left
            ·intro w'
             go_simp
             with_reducible rfl
            rotate_left
            ·simp only [Act.put,List.setIfInBounds_toArray,List.set_cons_zero,List.set_cons_succ,i64_w,i32_w]
             rfl
            refine pure_ (i:=5) (N:=some 33) (v := ?_) (a' := ?_) #[true,false,true,true,true,true,false] rfl rfl (by kernel_rfl) (fun _ _ _ h => h) (Or.inl ⟨by rfl,?_⟩) ?_ ?_
            rotate_left
            ·intro w'
             go_simp
             with_reducible rfl
            rotate_left
            ·simp only [Act.put,List.setIfInBounds_toArray,List.set_cons_zero,List.set_cons_succ,i64_w,i32_w]
             rfl
            refine one_ (i:=1) (N:=some 29) #[true,true,true,true,true,true,false] rfl rfl (by kernel_rfl) (by decide) (fun K hK => ?_)
            refine goes_ Try.func22 (by kernel_rfl) rfl #[.int .u64 (Go.bits .or .u64 x5_1 (ji9))] (by rfl) rfl rfl (by (try simp only [List.map_toArray,List.map_cons,List.map_nil]);first | done | (simp only [hji9];rfl) | rfl | (simp only [List.length_drop,List.length_take];rfl)) ?_
            with_reducible refine (varint_Put.calls (Go.bits .or .u64 x5_1 (ji9)) t113 _ A11.out).mono ?_
            rintro e w22 ⟨rfl,hb⟩
            refine ⟨_,rfl,?_⟩
            have n0_:=Aside0.mk (below_step (by repeat (first | (with_reducible first | exact HB.out | apply below_alloc | apply pw_below_drewN | apply below_drew1) | exact HB.out)) hb)
            clear HB
            have HB:=n0_
            clear n0_
            (try clear hb)
            (try clear hb2)
            (try clear hk)
            (try clear hi)
            refine hK.out _ _ trivial (fun hHeld => ?_)
            clear hK K
            refine norm_ (a' := ?_) ?_ ?_
            rotate_left
            ·show Act.put _ (some 29) _ = _
             simp only [Act.put,List.setIfInBounds_toArray,List.set_cons_zero,List.set_cons_succ,i64_w,i32_w]
             rfl
            refine pure_ (i:=6) (N:=some 34) (v := ?_) (a' := ?_) #[true,true,true,true,true,true,true] rfl rfl (by kernel_rfl) (fun _ _ _ h => h) (Or.inl ⟨by rfl,?_⟩) ?_ ?_
            rotate_left
            ·intro w'
             go_simp
             with_reducible rfl
            rotate_left
            ·simp only [Act.put,List.setIfInBounds_toArray,List.set_cons_zero,List.set_cons_succ,i64_w,i32_w]
             rfl
            refine done_ (by kernel_rfl) ?_
            try go_wp2
            go_ret3
            exact ⟨by first | rfl | (simp [errW_none,errW_some] <;> rfl) | (simp only [← hji7,← hji9,← hji12];first | rfl | (simp [errW_none,errW_some] <;> rfl)) | (simp [*,errW_none,errW_some] <;> rfl) | (simp [errW_none,errW_some];exact isEmpty_bne _),by repeat (first | (with_reducible first | exact HB.out | apply below_alloc | apply pw_below_drewN | apply below_drew1) | exact HB.out)⟩
          ·rw [if_neg c14] at H
           exact absurd H (by simp)
         ·rw [if_neg c13] at H
          exact absurd H (by simp)
       ·rw [if_neg c8] at H
        exact absurd H (by simp)
      ·rw [if_neg c5] at H
       exact absurd H (by simp)
     ·rw [if_neg c4] at H
      exact absurd H (by simp)
   ·rw [if_neg c2] at H
    have c2b0 : decide (x8_1 < 10) = false:=decide_eq_false c2
    clear c2
    simp only [Option.some.injEq,Prod.mk.injEq] at H
    obtain ⟨rfl,rfl,rfl⟩:=H
    go_wp2
    go_ret3
    exact ⟨by first | rfl | (simp [errW_none,errW_some] <;> rfl) | (simp [*,errW_none,errW_some] <;> rfl) | (simp [errW_none,errW_some];exact isEmpty_bne _),by repeat (first | (with_reducible first | exact HB.out | apply below_alloc | apply pw_below_drewN | apply below_drew1) | exact HB.out)⟩

/-! ### varint_OfText: function 34 -/
def varint_OfText.f (k : Nat) (a0 : ByteArray) : Option (ByteArray × ByteArray × Int):=(varint_Take.f k a0).bind fun bt114 => (if bt114.2.2 = 0 then (if bt114.1 > (IntKind.u64.wrap ((bt114.2.1.size : Int))) then (some ((⟨#[]⟩ : ByteArray),(⟨#[]⟩ : ByteArray),3)) else (if 0 ≤ bt114.1 then (if bt114.1 ≤ (bt114.2.1.size : Int) then (some (bt114.2.1.extract 0 (bt114.1 : Int).toNat,bt114.2.1.extract (bt114.1 : Int).toNat bt114.2.1.size,0)) else (none)) else (none))) else (some ((⟨#[]⟩ : ByteArray),(⟨#[]⟩ : ByteArray),bt114.2.2)))
theorem varint_OfText.mono : ∀ a0 k,LeO (varint_OfText.f k a0) (varint_OfText.f (k + 1) a0):=by
 intro a0 k
 unfold varint_OfText.f
 repeat' first
   | (with_reducible exact varint_Take.mono _ _)
   | (with_reducible exact LeO.refl _)
   | (with_reducible exact LeO.none _)
   | (with_reducible refine LeO.ite ?_ ?_)
   | (with_reducible refine LeO.bind ?_ (fun _ => ?_))
   | exact varint_Take.mono _ _
   | exact LeO.none _
   | refine LeO.ite ?_ ?_
   | refine LeO.bind ?_ (fun _ => ?_)
set_option maxHeartbeats 8000000 in
set_option maxRecDepth 100000 in
theorem varint_OfText.calls (k : Nat) (a0 : ByteArray) (r1 : ByteArray) (r2 : ByteArray) (r3 : Int) (w : World) (h : varint_OfText.f k a0 = some (r1,r2,r3)) :
  Calls Try.prog 34 #[.string a0] w fun e w' => e = .returned (.tuple #[.string r1,.string r2,.int .i64 r3]) ∧ Below w.heap.size w w' := by
 have HB:=Aside0.mk (Below.refl w.heap.size w)
 have H : ((varint_Take.f k a0).bind fun bt114 => (if bt114.2.2 = 0 then (if bt114.1 > (IntKind.u64.wrap ((bt114.2.1.size : Int))) then (some ((⟨#[]⟩ : ByteArray),(⟨#[]⟩ : ByteArray),3)) else (if 0 ≤ bt114.1 then (if bt114.1 ≤ (bt114.2.1.size : Int) then (some (bt114.2.1.extract 0 (bt114.1 : Int).toNat,bt114.2.1.extract (bt114.1 : Int).toNat bt114.2.1.size,0)) else (none)) else (none))) else (some ((⟨#[]⟩ : ByteArray),(⟨#[]⟩ : ByteArray),bt114.2.2)))) = some (r1,r2,r3):=h
 clear h
 replace H:=Option.bind_eq_some_iff.mp H
 obtain ⟨⟨t114,t115,t116⟩,A20,H⟩:=H
 replace H : (if t116 = 0 then (if t114 > (IntKind.u64.wrap ((t115.size : Int))) then (some ((⟨#[]⟩ : ByteArray),(⟨#[]⟩ : ByteArray),3)) else (if 0 ≤ t114 then (if t114 ≤ (t115.size : Int) then (some (t115.extract 0 (t114 : Int).toNat,t115.extract (t114 : Int).toNat t115.size,0)) else (none)) else (none))) else (some ((⟨#[]⟩ : ByteArray),(⟨#[]⟩ : ByteArray),t116))) = some (r1,r2,r3):=H
 have A2:=Aside0.mk A20
 clear A20
 by_cases c3 : t116 = 0
 ·rw [if_pos c3] at H
  have c3b0 : (t116 == 0) = true:=beq_iff_eq.mpr c3
  have c3b1 : (t116 != 0) = false:=bne_eq_false_iff_eq.mpr c3
  clear c3
  by_cases c4 : t114 > (IntKind.u64.wrap ((t115.size : Int)))
  ·rw [if_pos c4] at H
   have c4b0 : decide ((IntKind.u64.wrap ((t115.size : Int))) < t114) = true:=decide_eq_true c4
   clear c4
   simp only [Option.some.injEq,Prod.mk.injEq] at H
   obtain ⟨rfl,rfl,rfl⟩:=H
   go_enter Try.func34,Try.ntmps34
   go_wp2_with (first | (go_at_call 32;(with_reducible refine (varint_Take.calls k a0 t114 t115 t116 _ A2.out).mono ?_);rintro e w5 ⟨rfl,hb⟩;have n0_:=Aside0.mk (below_step (by repeat (first | (with_reducible first | exact HB.out | apply below_alloc | apply pw_below_drewN | apply below_drew1) | exact HB.out)) hb);clear HB;have HB:=n0_;clear n0_;(try clear hb);(try clear hb2);(try clear hk);(try clear hi)))
   repeat (go_quiet (first | (go_at_call 32;(with_reducible refine (varint_Take.calls k a0 t114 t115 t116 _ A2.out).mono ?_);rintro e w5 ⟨rfl,hb⟩;have n0_:=Aside0.mk (below_step (by repeat (first | (with_reducible first | exact HB.out | apply below_alloc | apply pw_below_drewN | apply below_drew1) | exact HB.out)) hb);clear HB;have HB:=n0_;clear n0_;(try clear hb);(try clear hb2);(try clear hk);(try clear hi)));try go_wp2_with (first | (go_at_call 32;(with_reducible refine (varint_Take.calls k a0 t114 t115 t116 _ A2.out).mono ?_);rintro e w5 ⟨rfl,hb⟩;have n0_:=Aside0.mk (below_step (by repeat (first | (with_reducible first | exact HB.out | apply below_alloc | apply pw_below_drewN | apply below_drew1) | exact HB.out)) hb);clear HB;have HB:=n0_;clear n0_;(try clear hb);(try clear hb2);(try clear hk);(try clear hi))))
   go_ret3
   exact ⟨by first | rfl | (simp [errW_none,errW_some] <;> rfl) | (simp [*,errW_none,errW_some] <;> rfl) | (simp [errW_none,errW_some];exact isEmpty_bne _),by repeat (first | (with_reducible first | exact HB.out | apply below_alloc | apply pw_below_drewN | apply below_drew1) | exact HB.out)⟩
  ·rw [if_neg c4] at H
   have c4b0 : decide ((IntKind.u64.wrap ((t115.size : Int))) < t114) = false:=decide_eq_false c4
   clear c4
   by_cases c6 : 0 ≤ t114
   ·rw [if_pos c6] at H
    have c6b0:=eq_true c6
    have c6b1 : decide (0 ≤ t114) = true:=decide_eq_true c6
    clear c6
    by_cases c7 : t114 ≤ (t115.size : Int)
    ·rw [if_pos c7] at H
     have c7b0:=eq_true c7
     have c7b1 : decide (t114 ≤ (t115.size : Int)) = true:=decide_eq_true c7
     clear c7
     have c8b0:=eq_true (of_decide_eq_true (by first | (with_reducible assumption) | assumption) : 0 ≤ t114)
     have c9b0:=eq_true (of_decide_eq_true (by first | (with_reducible assumption) | assumption) : t114 ≤ (t115.size : Int))
     simp only [Option.some.injEq,Prod.mk.injEq] at H
     obtain ⟨rfl,rfl,rfl⟩:=H
     go_enter Try.func34,Try.ntmps34
     go_wp2_with (first | (go_at_call 32;(with_reducible refine (varint_Take.calls k a0 t114 t115 t116 _ A2.out).mono ?_);rintro e w10 ⟨rfl,hb⟩;have n0_:=Aside0.mk (below_step (by repeat (first | (with_reducible first | exact HB.out | apply below_alloc | apply pw_below_drewN | apply below_drew1) | exact HB.out)) hb);clear HB;have HB:=n0_;clear n0_;(try clear hb);(try clear hb2);(try clear hk);(try clear hi)))
     repeat (go_quiet (first | (go_at_call 32;(with_reducible refine (varint_Take.calls k a0 t114 t115 t116 _ A2.out).mono ?_);rintro e w10 ⟨rfl,hb⟩;have n0_:=Aside0.mk (below_step (by repeat (first | (with_reducible first | exact HB.out | apply below_alloc | apply pw_below_drewN | apply below_drew1) | exact HB.out)) hb);clear HB;have HB:=n0_;clear n0_;(try clear hb);(try clear hb2);(try clear hk);(try clear hi)));try go_wp2_with (first | (go_at_call 32;(with_reducible refine (varint_Take.calls k a0 t114 t115 t116 _ A2.out).mono ?_);rintro e w10 ⟨rfl,hb⟩;have n0_:=Aside0.mk (below_step (by repeat (first | (with_reducible first | exact HB.out | apply below_alloc | apply pw_below_drewN | apply below_drew1) | exact HB.out)) hb);clear HB;have HB:=n0_;clear n0_;(try clear hb);(try clear hb2);(try clear hk);(try clear hi))))
     go_ret3
     exact ⟨by first | rfl | (simp [errW_none,errW_some] <;> rfl) | (simp [*,errW_none,errW_some] <;> rfl) | (simp [errW_none,errW_some];exact isEmpty_bne _),by repeat (first | (with_reducible first | exact HB.out | apply below_alloc | apply pw_below_drewN | apply below_drew1) | exact HB.out)⟩
    ·rw [if_neg c7] at H
     exact absurd H (by simp)
   ·rw [if_neg c6] at H
    exact absurd H (by simp)
 ·rw [if_neg c3] at H
  have c3b0 : (t116 == 0) = false:=beq_eq_false_iff_ne.mpr c3
  have c3b1 : (t116 != 0) = true:=bne_iff_ne.mpr c3
  simp only [Option.some.injEq,Prod.mk.injEq] at H
  obtain ⟨rfl,rfl,rfl⟩:=H
  go_enter Try.func34,Try.ntmps34
  go_wp2_with (first | (go_at_call 32;(with_reducible refine (varint_Take.calls k a0 t114 t115 t116 _ A2.out).mono ?_);rintro e w11 ⟨rfl,hb⟩;have n0_:=Aside0.mk (below_step (by repeat (first | (with_reducible first | exact HB.out | apply below_alloc | apply pw_below_drewN | apply below_drew1) | exact HB.out)) hb);clear HB;have HB:=n0_;clear n0_;(try clear hb);(try clear hb2);(try clear hk);(try clear hi)))
  repeat (go_quiet (first | (go_at_call 32;(with_reducible refine (varint_Take.calls k a0 t114 t115 t116 _ A2.out).mono ?_);rintro e w11 ⟨rfl,hb⟩;have n0_:=Aside0.mk (below_step (by repeat (first | (with_reducible first | exact HB.out | apply below_alloc | apply pw_below_drewN | apply below_drew1) | exact HB.out)) hb);clear HB;have HB:=n0_;clear n0_;(try clear hb);(try clear hb2);(try clear hk);(try clear hi)));try go_wp2_with (first | (go_at_call 32;(with_reducible refine (varint_Take.calls k a0 t114 t115 t116 _ A2.out).mono ?_);rintro e w11 ⟨rfl,hb⟩;have n0_:=Aside0.mk (below_step (by repeat (first | (with_reducible first | exact HB.out | apply below_alloc | apply pw_below_drewN | apply below_drew1) | exact HB.out)) hb);clear HB;have HB:=n0_;clear n0_;(try clear hb);(try clear hb2);(try clear hk);(try clear hi))))
  go_ret3
  exact ⟨by first | rfl | (simp [errW_none,errW_some] <;> rfl) | (simp [*,errW_none,errW_some] <;> rfl) | (simp [errW_none,errW_some];exact isEmpty_bne _),by repeat (first | (with_reducible first | exact HB.out | apply below_alloc | apply pw_below_drewN | apply below_drew1) | exact HB.out)⟩

/-! ### hint_Read: function 12 -/
theorem one_cell {w : World} {s : Nat} {v : Value} {t : TypeId} (h : w.heap[s]? = some (.cells #[v] t)) : w.cell? ⟨s, 0, none⟩ = some v ∧ w.frozen? ⟨s, 0, none⟩ = false := by
  refine ⟨?_, ?_⟩ <;> simp [World.cell?, World.frozen?, h]
theorem one_set {w : World} {s : Nat} {v : Value} {t : TypeId} (h : w.heap[s]? = some (.cells #[v] t)) (u : Value) : (w.setCell ⟨s, 0, none⟩ u).heap[s]? = some (.cells #[u] t) := by
  simp [World.setCell, Array.getElem?_modify, h]
theorem other_set {w : World} {s : Nat} {o : Obj} (h : w.heap[s]? = some o) (b i : Nat) (ha : s ≠ b) (v : Value) : (w.setCell ⟨b, i, none⟩ v).heap[s]? = some o := (Below.heap_setCell w ⟨b, i, none⟩ v s ha).trans h
set_option maxHeartbeats 1600000 in
set_option maxRecDepth 100000 in
theorem hint_take.calls (k : Nat) (ps pf : Nat) (s : ByteArray) (fine : Bool) (n : Int) (rest : ByteArray) (e : Int) (w : World) (hs : w.heap[ps]? = some (.cells #[.string s] 9)) (hf : w.heap[pf]? = some (.cells #[.bool fine] 4))
    (hne : ps ≠ pf) (h : varint_Take.f k s = some (n, rest, e)) :
    Calls Try.prog 33 #[.pointer (some ⟨ps, 0, none⟩), .pointer (some ⟨pf, 0, none⟩)] w fun x w' => x = .returned (.int .u64 n) ∧ ∃ w1, Below w.heap.size w w1 ∧ w' = (w1.setCell ⟨pf, 0, none⟩ (.bool (fine && e == 0))).setCell ⟨ps, 0, none⟩ (.string rest) := by
  have H := Aside0.mk h
  have HS := Aside0.mk hs
  have HF := Aside0.mk hf
  obtain ⟨c1, c2⟩ := one_cell hs
  obtain ⟨d1, d2⟩ := one_cell hf
  clear h hs hf
  go_enter Try.func33, Try.ntmps33
  go_wp2_with fail
  refine (varint_Take.calls k s n rest e _ H.out).mono ?_
  rintro x w1 ⟨rfl, hb⟩
  have hs1 := blk_below HS.out hb
  have hf1 := blk_below HF.out hb
  clear c1 c2 d1 d2
  obtain ⟨c1, c2⟩ := one_cell hs1
  obtain ⟨d1, d2⟩ := one_cell hf1
  have HB := Aside0.mk hb
  clear hb hs1 hf1
  cases fine with
  | false =>
    go_wp2_with fail
    go_ret
    exact ⟨rfl, w1, HB.out, rfl⟩
  | true =>
    go_wp2_with fail
    go_ret
    exact ⟨rfl, w1, HB.out, rfl⟩
theorem five {w : World} {s : Nat} {v0 v1 v2 v3 v4 : Value} {t : TypeId} (h : w.heap[s]? = some (.cells #[v0, v1, v2, v3, v4] t)) :
    w.cell? ⟨s, 0, none⟩ = some v0 ∧ w.cell? ⟨s, 1, none⟩ = some v1 ∧ w.cell? ⟨s, 2, none⟩ = some v2 ∧ w.cell? ⟨s, 3, none⟩ = some v3 ∧ w.cell? ⟨s, 4, none⟩ = some v4 ∧ ∀ i, w.frozen? ⟨s, i, none⟩ = false := by
  refine ⟨?_, ?_, ?_, ?_, ?_, fun i => ?_⟩ <;> simp [World.cell?, World.frozen?, h]
structure HintAt (w W : World) (ps pf : Nat) (s : ByteArray) (fine : Bool) (v : Value) (out : List (S39)) : Prop where
  hs : W.heap[ps]? = some (.cells #[.string s] 9)
  hf : W.heap[pf]? = some (.cells #[.bool fine] 4)
  ho : Kd.R k39 39 W w.heap.size (fun _ => True) v out
  hb : Below w.heap.size w W
  ne : ps ≠ pf
  zp : w.heap.size ≤ ps
  zf : w.heap.size ≤ pf
theorem HintAt.step {w W W1 : World} {ps pf : Nat} {s : ByteArray} {fine : Bool} {v : Value} {out : List (S39)} (h : HintAt w W ps pf s fine v out) (hb : Below W.heap.size W W1) : HintAt w W1 ps pf s fine v out :=
  ⟨blk_below h.hs hb, blk_below h.hf hb, Kd.R_below h.ho hb, h.hb.trans (hb.mono h.hb.size), h.ne, h.zp, h.zf⟩
theorem HintAt.set {w W : World} {ps pf : Nat} {s : ByteArray} {fine : Bool} {v : Value} {out : List (S39)} (h : HintAt w W ps pf s fine v out) (fine' : Bool) (s' : ByteArray) : HintAt w ((W.setCell ⟨pf, 0, none⟩ (.bool fine')).setCell ⟨ps, 0, none⟩ (.string s')) ps pf s' fine' v out :=
  ⟨one_set (other_set h.hs _ _ h.ne _) _, other_set (one_set h.hf _) _ _ h.ne.symm _, Kd.R_set (Kd.R_set h.ho h.hf (by decide) 0 _) (other_set h.hs _ _ h.ne _) (by decide) 0 _, (h.hb.setCell (p := ⟨pf, 0, none⟩) h.zf _).setCell (p := ⟨ps, 0, none⟩) h.zp _, h.ne, h.zp, h.zf⟩
def hint_entry (key : ByteArray) (off size seq : Int) : S39 := ⟨key, wrap64 (mn off 1048577), wrap64 (mn (size / 2) 401), seq, Go.bits .and .u64 size 1 == 1⟩
def hint_Read.l0 : Nat → Int → ByteArray → List (S39) → Option (List (S39) × Int)
  | 0, _, _, _ => none
  | k + 1, many, s, out => if s.toList = ([] : List UInt8) then (if IntKind.u64.wrap (out.length : Int) = many then some (out, 0) else some ([], 2)) else
    ((varint_OfText.f k s).bind fun y0 => ((varint_Take.f k y0.2.1).bind fun y1 => ((varint_Take.f k y1.2.1).bind fun y2 => ((varint_Take.f k y2.2.1).bind fun y3 =>
      (if ((((y0.2.2 == 0) && (y1.2.2 == 0)) && (y2.2.2 == 0)) && (y3.2.2 == 0)) = true then
        ((hint_right.f y0.1 (wrap64 (mn y1.1 1048577)) (wrap64 (mn (y2.1 / 2) 401)) y3.1 (Go.bits .and .u64 y2.1 1 == 1)).bind fun ok => (if ok = true then (if (out.length : Int) = 2000 then some ([], 2) else (if out.length < 1000000000 then hint_Read.l0 k many y3.2.1 (out ++ [hint_entry y0.1 y1.1 y2.1 y3.1]) else none)) else some ([], 2)))
      else some ([], 2))))))
def hint_Read.f (k : Nat) (a0 : ByteArray) : Option (List (S39) × Int) :=
  (crc_Open.f a0).bind fun y0 => (if y0.2 = true then ((varint_Take.f k y0.1).bind fun y1 => (if y1.2.2 = 0 then hint_Read.l0 k y1.1 y1.2.1 [] else some ([], 2))) else some ([], 4))
theorem hint_Read.mono_l : ∀ k, (∀ y0 y1 y2, LeO (hint_Read.l0 k y0 y1 y2) (hint_Read.l0 (k + 1) y0 y1 y2))
  | 0 => fun _ _ _ r h => by simp [hint_Read.l0] at h
  | k + 1 => by
    have ih0 := hint_Read.mono_l k
    intro y0 y1 y2
    unfold hint_Read.l0
    repeat' first
      | (with_reducible exact ih0 _ _ _)
      | (with_reducible exact varint_Take.mono _ _)
      | (with_reducible exact varint_OfText.mono _ _)
      | (with_reducible exact LeO.refl _)
      | (with_reducible exact LeO.none _)
      | (with_reducible refine LeO.ite ?_ ?_)
      | (with_reducible refine LeO.bind ?_ (fun _ => ?_))
theorem hint_Read.mono : ∀ a0 k, LeO (hint_Read.f k a0) (hint_Read.f (k + 1) a0) := by
  intro a0 k
  have ih0 := hint_Read.mono_l k
  unfold hint_Read.f
  repeat' first
      | (with_reducible exact ih0 _ _ _)
      | (with_reducible exact varint_Take.mono _ _)
      | (with_reducible exact LeO.refl _)
      | (with_reducible exact LeO.none _)
      | (with_reducible refine LeO.ite ?_ ?_)
      | (with_reducible refine LeO.bind ?_ (fun _ => ?_))
set_option maxHeartbeats 8000000 in
set_option maxRecDepth 100000 in
theorem hint_Read.calls (k : Nat) (a0 : ByteArray) (r1 : List (S39)) (r2 : Int) (w : World) (h : hint_Read.f k a0 = some (r1, r2)) :
    Calls Try.prog 12 #[.string a0] w fun e w' => ∃ v0_ : Value, e = .returned (.tuple #[v0_, .int .i64 r2]) ∧ Kd.R k39 39 w' w.heap.size (fun _ => True) v0_ r1 ∧ Below w.heap.size w w' := by
  unfold hint_Read.f at h
  obtain ⟨⟨s, is⟩, h1, h⟩ := Option.bind_eq_some_iff.mp h
  simp only at h
  have A1 := Aside0.mk h1
  clear h1
  have HB := Aside0.mk (Below.refl w.heap.size w)
  cases is with
  | false =>
    rw [if_neg (by decide)] at h
    simp only [Option.some.injEq, Prod.mk.injEq] at h
    obtain ⟨rfl, rfl⟩ := h
    go_enter Try.func12, Try.ntmps12
    go_wp2_with fail
    refine (crc_Open.calls a0 s false _ A1.out).mono ?_
    rintro x w1 ⟨rfl, hb1⟩
    go_wp2_with fail
    go_ret2
    exact ⟨_, rfl, Kd.R_nil _ _ _ _ _, (hb1.alloc (below_size hb1) _)⟩
  | true =>
    rw [if_pos rfl] at h
    obtain ⟨⟨many, s1, e1⟩, h2, h⟩ := Option.bind_eq_some_iff.mp h
    simp only at h
    have A2 := Aside0.mk h2
    clear h2
    by_cases he : e1 = 0
    case neg =>
      rw [if_neg he] at h
      simp only [Option.some.injEq, Prod.mk.injEq] at h
      obtain ⟨rfl, rfl⟩ := h
      have hne : (e1 != 0) = true := bne_iff_ne.mpr he
      go_enter Try.func12, Try.ntmps12
      go_wp2_with fail
      refine (crc_Open.calls a0 s true _ A1.out).mono ?_
      rintro x w1 ⟨rfl, hb1⟩
      go_wp2_with fail
      refine (varint_Take.calls k s many s1 e1 _ A2.out).mono ?_
      rintro x w2 ⟨rfl, hb2⟩
      have o2 := blk_below (blk_new w1 _) hb2
      obtain ⟨c1, c2⟩ := one_cell o2
      have B1 := Below.trans ((Below.alloc hb1 hb1.size (.cells #[.string s] 9))) (hb2.mono (by have := hb1.size; simp; omega))
      have z1 := hb1.size
      go_wp2_with fail
      go_ret2
      exact ⟨_, rfl, Kd.R_nil _ _ _ _ _, B1.setCell (by exact z1) _⟩
    rw [if_pos he] at h
    subst he
    go_enter Try.func12, Try.ntmps12
    go_wp2_with fail
    refine (crc_Open.calls a0 s true _ A1.out).mono ?_
    rintro x w1 ⟨rfl, hb1⟩
    go_wp2_with fail
    refine (varint_Take.calls k s many s1 0 _ A2.out).mono ?_
    rintro x w2 ⟨rfl, hb2⟩
    have o2 := blk_below (blk_new w1 _) hb2
    obtain ⟨c1, c2⟩ := one_cell o2
    have H' := Aside0.mk h
    have z1 := hb1.size
    have B1 := Below.trans ((Below.alloc hb1 hb1.size (.cells #[.string s] 9))) (hb2.mono (by have := hb1.size; simp; omega))
    have HS := Aside0.mk (one_set o2 (.string s1))
    have HB1 := Aside0.mk (B1.setCell (p := ⟨w1.heap.size, 0, none⟩) z1 (.string s1))
    have ZP := Aside0.mk z1
    generalize hps : w1.heap.size = ps at *
    clear h hb1 hb2 B1 o2
    clear HB
    go_wp2_with fail
    go_loopg [8] k (fun kq v8 w' => ∃ (out_1 : List (S39)) (s_1 : ByteArray), Aside0 (hint_Read.l0 kq many s_1 out_1 = some (r1, r2)) ∧ Aside0 (kq ≤ k) ∧ Aside0 (Kd.R k39 39 w' w.heap.size (fun _ => True) v8 out_1) ∧ Aside0 (Below w.heap.size w w') ∧ Aside0 (w'.heap[ps]? = some (.cells #[.string s_1] 9)))
    case atStart => exact ⟨[], s1, H', ⟨Nat.le_refl _⟩, ⟨Kd.R_nil _ _ _ _ _⟩, HB1, HS⟩
    case round =>
      clear H' HB1 HS
      obtain ⟨out, s, HA, HK1, HO, HB, HS⟩ := hrel
      cases gk with
      | zero => exact absurd HA.out (by simp [hint_Read.l0])
      | succ k1 =>
        have H := HA.out
        clear HA
        simp only [hint_Read.l0] at H
        obtain ⟨c1, c2⟩ := one_cell HS.out
        have zp : ps < wr.heap.size := blk_lt HS.out
        by_cases hz : s.toList = ([] : List UInt8)
        · rw [if_pos hz] at H
          have hz1 : (s.toList != ([] : List UInt8)) = false := bne_eq_false_iff_eq.mpr hz
          have hz2 : (s.toList == ([] : List UInt8)) = true := beq_iff_eq.mpr hz
          obtain ⟨A, c, rfl⟩ := Kd.R_slice HO.out
          by_cases hm : IntKind.u64.wrap (out.length : Int) = many
          · rw [if_pos hm] at H
            simp only [Option.some.injEq, Prod.mk.injEq] at H
            obtain ⟨rfl, rfl⟩ := H
            have hm1 : (IntKind.u64.wrap (out.length : Int) != many) = false := bne_eq_false_iff_eq.mpr hm
            go_wp2_with fail
            go_ret2
            exact ⟨_, rfl, HO.out, HB.out⟩
          · rw [if_neg hm] at H
            simp only [Option.some.injEq, Prod.mk.injEq] at H
            obtain ⟨rfl, rfl⟩ := H
            have hm1 : (IntKind.u64.wrap (out.length : Int) != many) = true := bne_iff_ne.mpr hm
            go_wp2_with fail
            go_ret2
            exact ⟨_, rfl, Kd.R_nil _ _ _ _ _, HB.out⟩
        · rw [if_neg hz] at H
          have hz1 : (s.toList != ([] : List UInt8)) = true := bne_iff_ne.mpr hz
          have hz2 : (s.toList == ([] : List UInt8)) = false := beq_eq_false_iff_ne.mpr hz
          obtain ⟨⟨key, b0, e0⟩, G0, H2⟩ := Option.bind_eq_some_iff.mp H
          clear H
          obtain ⟨⟨off, b1, e1⟩, G1, H3⟩ := Option.bind_eq_some_iff.mp H2
          clear H2
          obtain ⟨⟨size, b2, e2⟩, G2, H4⟩ := Option.bind_eq_some_iff.mp H3
          clear H3
          obtain ⟨⟨seq, b3, e3⟩, G3, H5⟩ := Option.bind_eq_some_iff.mp H4
          clear H4
          simp only at G0 G1 G2 G3 H5
          have A3 := Aside0.mk G0
          have A4 := Aside0.mk G1
          have A5 := Aside0.mk G2
          have A6 := Aside0.mk G3
          have H' := Aside0.mk H5
          clear G0 G1 G2 G3 H5
          have hps2 : ps ≠ wr.heap.size := by omega
          have X0 : HintAt w (wr.alloc (.cells #[.bool true] 4)) ps wr.heap.size s true u8 out := ⟨blk_alloc HS.out _, blk_new wr _, Kd.R_alloc HO.out _, below_alloc HB.out _, hps2, ZP.out, HB.out.size⟩
          have Y0 := Aside0.mk X0
          clear X0 HS HO HB
          go_wp2_with fail
          refine (varint_OfText.calls k1 s key b0 e0 _ A3.out).mono ?_
          rintro x w3 ⟨rfl, hb3⟩
          have Y1 := Aside0.mk (Y0.out.step hb3)
          clear hb3 Y0 c1 c2
          obtain ⟨c1, c2⟩ := one_cell Y1.out.hs
          obtain ⟨d1, d2⟩ := one_cell Y1.out.hf
          go_wp2_with fail
          have Y2 := Aside0.mk (Y1.out.set (e0 == 0) b0)
          refine (hint_take.calls k1 ps wr.heap.size b0 (e0 == 0) off b1 e1 _ Y2.out.hs Y2.out.hf hps2 A4.out).mono ?_
          rintro x W4 ⟨rfl, w4, hb4, rfl⟩
          have Y3 := Aside0.mk ((Y2.out.step hb4).set ((e0 == 0) && e1 == 0) b1)
          clear hb4 Y1 Y2 c1 c2 d1 d2
          go_wp2_with fail
          refine (hint_take.calls k1 ps wr.heap.size b1 ((e0 == 0) && e1 == 0) size b2 e2 _ Y3.out.hs Y3.out.hf hps2 A5.out).mono ?_
          rintro x W5 ⟨rfl, w5, hb5, rfl⟩
          have Y4 := Aside0.mk ((Y3.out.step hb5).set (((e0 == 0) && e1 == 0) && e2 == 0) b2)
          clear hb5 Y3
          go_wp2_with fail
          refine (hint_take.calls k1 ps wr.heap.size b2 (((e0 == 0) && e1 == 0) && e2 == 0) seq b3 e3 _ Y4.out.hs Y4.out.hf hps2 A6.out).mono ?_
          rintro x W6 ⟨rfl, w6, hb6, rfl⟩
          have Y5 := Aside0.mk ((Y4.out.step hb6).set ((((e0 == 0) && e1 == 0) && e2 == 0) && e3 == 0) b3)
          clear hb6 Y4
          generalize hfine : ((((e0 == 0) && e1 == 0) && e2 == 0) && e3 == 0) = fine at *
          generalize hW : (w6.setCell ⟨wr.heap.size, 0, none⟩ (.bool fine)).setCell ⟨ps, 0, none⟩ (.string b3) = W at *
          obtain ⟨c1, c2⟩ := one_cell Y5.out.hs
          obtain ⟨d1, d2⟩ := one_cell Y5.out.hf
          have zq : ps < W.heap.size := blk_lt Y5.out.hs
          have zr : wr.heap.size < W.heap.size := blk_lt Y5.out.hf
          have hr := H'.out
          try simp only [hfine] at hr
          clear H'
          generalize hjo : mn off 1048577 = jo at *
          generalize hjs : mn (size / 2) 401 = js at *
          have hjo_ : (if 1048577 < off then 1048577 else off) = jo := hjo
          have hjs_ : (if 401 < size / 2 then 401 else size / 2) = js := hjs
          cases fine with
          | false =>
            rw [if_neg (by decide)] at hr
            simp only [Option.some.injEq, Prod.mk.injEq] at hr
            obtain ⟨rfl, rfl⟩ := hr
            go_wp2_with fail
            go_ret2
            exact ⟨_, rfl, Kd.R_nil _ _ _ _ _, Y5.out.hb.alloc Y5.out.hb.size _⟩
          | true =>
            rw [if_pos rfl] at hr
            obtain ⟨ok, G, H6⟩ := Option.bind_eq_some_iff.mp hr
            have A7 := Aside0.mk G
            clear hr G
            go_wp2_with fail
            refine (hint_right.calls key (wrap64 jo) (wrap64 js) seq (Go.bits .and .u64 size 1 == 1) ok _ A7.out).mono ?_
            rintro x w7 ⟨rfl, hb7⟩
            have Y6 := Aside0.mk ((Y5.out.step ((Below.refl W.heap.size W).alloc (Nat.le_refl _) _)).step hb7)
            have hx := blk_below (blk_new W _) hb7
            clear hb7 c1 c2 d1 d2
            obtain ⟨c1, c2⟩ := one_cell Y6.out.hs
            obtain ⟨d1, d2⟩ := one_cell Y6.out.hf
            obtain ⟨x0, x1, x2, x3, x4, xf⟩ := five hx
            obtain ⟨A, c, hu8⟩ := Kd.R_slice Y6.out.ho
            subst hu8
            cases ok with
            | false =>
              rw [if_neg (by decide)] at H6
              simp only [Option.some.injEq, Prod.mk.injEq] at H6
              obtain ⟨rfl, rfl⟩ := H6
              go_wp2_with fail
              go_ret2
              exact ⟨_, rfl, Kd.R_nil _ _ _ _ _, Y6.out.hb⟩
            | true =>
              rw [if_pos rfl] at H6
              by_cases hl : (out.length : Int) = 2000
              · rw [if_pos hl] at H6
                simp only [Option.some.injEq, Prod.mk.injEq] at H6
                obtain ⟨rfl, rfl⟩ := H6
                have hl1 : ((out.length : Int) == 2000) = true := beq_iff_eq.mpr hl
                go_wp2_with fail
                go_ret2
                exact ⟨_, rfl, Kd.R_nil _ _ _ _ _, Y6.out.hb⟩
              · rw [if_neg hl] at H6
                have hl1 : ((out.length : Int) == 2000) = false := beq_eq_false_iff_ne.mpr hl
                by_cases hz3 : out.length < 1000000000
                case neg => rw [if_neg hz3] at H6; exact absurd H6 (by simp)
                rw [if_pos hz3] at H6
                have H' := Aside0.mk H6
                have HZ := Aside0.mk hz3
                clear H6 hz3
                go_wp2_with ((with_reducible refine gate_builtin (b := .append) (xs := #[.tmp 76, .tmp 78]) rfl ?_); at_builtin; refine Kd.R_append k39 (w0 := w) w.heap.size rfl (.tmp 76) (.tmp 78) 22 39 (.agg #[(.string ⟨#[]⟩), (.int .i64 0), (.int .i64 0), (.int .u64 0), (.bool false)]) 48 rfl Try.underlying22 info39 rfl (by decide) (by omega) (.slice A out.length c) out (⟨key, wrap64 jo, wrap64 js, seq, Go.bits .and .u64 size 1 == 1⟩ : S39) [.string key, .int .i64 (wrap64 jo), .int .i64 (wrap64 js), .int .u64 seq, .bool (Go.bits .and .u64 size 1 == 1)] (fun _ => True) (fun _ => False) rfl (by first | (go_simp; done) | (go_simp; rfl)) ?aP (fun _ hk => hk.elim) ?aF ?aO ?aB ?aS ?aL ?_; (case aP => exact k39_mkM _ _ _ (⟨key, wrap64 jo, wrap64 js, seq, Go.bits .and .u64 size 1 == 1⟩ : S39)); (case aF => exact fun _ _ => trivial); (case aO => exact Y6.out.ho); (case aB => exact Y6.out.hb); (case aS => exact Y6.out.hb.size); (case aL => have := HZ.out; omega); intro v1 w8 ho hb hg hat)
                have hs8 : w8.heap[ps]? = some (.cells #[.string b3] 9) := (hg.block ps (blk_lt Y6.out.hs) (Kd.R_ne Y6.out.ho Y6.out.hs (by decide))).trans Y6.out.hs
                go_roundg k1
                case measure => have := HK1.out; omega
                case rel => exact ⟨_, b3, H', ⟨by have := HK1.out; omega⟩, ⟨by first | (subst hjo; subst hjs; exact ho) | exact ho⟩, ⟨hb⟩, ⟨hs8⟩⟩

/-! ### frame_fits: function 47 -/
def frame_fits.f (a0 : Int) : Option (Bool):=if a0 ≥ 1 then (some (decide (a0 ≤ 16))) else (some false)
set_option maxHeartbeats 8000000 in
set_option maxRecDepth 100000 in
theorem frame_fits.calls (a0 : Int) (r : Bool) (w : World) (h : frame_fits.f a0 = some r) :
  Calls Try.prog 47 #[.int .i64 a0] w fun e w' => e = .returned (.bool r) ∧ Drawn0 w w' := by
 have H : (if a0 ≥ 1 then (some (decide (a0 ≤ 16))) else (some false)) = some r:=h
 clear h
 by_cases c2 : a0 ≥ 1
 ·rw [if_pos c2] at H
  have c2b0 : decide (1 ≤ a0) = true:=decide_eq_true c2
  clear c2
  obtain rfl:=Option.some.inj H
  go_enter Try.func47,Try.ntmps47
  go_wp2
  go_ret
  exact ⟨by first | rfl | (simp;done) | (simp [*];done),by repeat (first | exact Drawn0.refl _ | apply Drawn0.step)⟩
 ·rw [if_neg c2] at H
  have c2b0 : decide (1 ≤ a0) = false:=decide_eq_false c2
  clear c2
  obtain rfl:=Option.some.inj H
  go_enter Try.func47,Try.ntmps47
  go_wp2
  go_ret
  exact ⟨by first | rfl | (simp;done) | (simp [*];done),by repeat (first | exact Drawn0.refl _ | apply Drawn0.step)⟩

end Go.Proofs.Ytdjkkceamldmjaa.Print
