/- Written by a program of mine (give.py, over the kit's print) out of the translation: contracts of the Go functions. Lean checks it. -/
import Derived.Test.YtlnbekaldemebaaGreatDoorPrint0
namespace Go.Proofs.YtlnbekaldemebaaGreatDoor.Print
open Go.RowKit Go.Proofs.YtlnbekaldemebaaGreatDoorW.PrintWords Go.Proofs.YtlnbekaldemebaaGreatDoorW.PrintLast Go.Proofs.YtlnbekaldemebaaGreatDoorW.PrintMore
attribute [local go_sem] max2_int min2_int max_two min_two max_three min_three max_four min_four   -- for this text's walks alone
set_option linter.unusedVariables false
set_option linter.unusedSimpArgs false

/-! ### thwartref12_digits: function 93 -/
def thwartref12_digits.l0 : Nat → Int → ByteArray → Int → Option (ByteArray)
 | 0,_,_,_ => none
 | k + 1,x0,x3,x4 => if x4 < 6 then ((some (([(wrap64 (48 + (Int.tmod x0 10))) % 256] : List Int) : List Int)).bind fun y283 => (if (strOfNums y283).size + x3.size ≤ 9223372036854775807 then (thwartref12_digits.l0 k (wrap64 (Int.tdiv x0 10)) ((strOfNums y283) ++ x3) (wrap64 (x4 + 1))) else (none))) else (some x3)
def thwartref12_digits.f (k : Nat) (a0 : Int) : Option (ByteArray):=thwartref12_digits.l0 k a0 (⟨#[]⟩ : ByteArray) 0
theorem thwartref12_digits.mono_l : ∀ k,(∀ y0 y1 y2,LeO (thwartref12_digits.l0 k y0 y1 y2) (thwartref12_digits.l0 (k + 1) y0 y1 y2))
 | 0 => fun _ _ _ r h => by simp [thwartref12_digits.l0] at h
 | k + 1 => by
  have ih0:=thwartref12_digits.mono_l k
  ·intro y0 y1 y2
   unfold thwartref12_digits.l0
   repeat' first
   | (with_reducible exact ih0 _ _ _)
   | (with_reducible exact LeO.refl _)
   | (with_reducible exact LeO.none _)
   | (with_reducible refine LeO.ite ?_ ?_)
   | (with_reducible refine LeO.bind ?_ (fun _ => ?_))
   | exact ih0 _ _ _
   | exact LeO.none _
   | refine LeO.ite ?_ ?_
   | refine LeO.bind ?_ (fun _ => ?_)
theorem thwartref12_digits.mono : ∀ a0 k,LeO (thwartref12_digits.f k a0) (thwartref12_digits.f (k + 1) a0):=by
 intro a0 k
 have ih0:=thwartref12_digits.mono_l k
 unfold thwartref12_digits.f
 repeat' first
   | (with_reducible exact ih0 _ _ _)
   | (with_reducible exact LeO.refl _)
   | (with_reducible exact LeO.none _)
   | (with_reducible refine LeO.ite ?_ ?_)
   | (with_reducible refine LeO.bind ?_ (fun _ => ?_))
   | exact ih0 _ _ _
   | exact LeO.none _
   | refine LeO.ite ?_ ?_
   | refine LeO.bind ?_ (fun _ => ?_)
set_option maxHeartbeats 8000000 in
set_option maxRecDepth 100000 in
theorem thwartref12_digits.calls (k : Nat) (a0 : Int) (r : ByteArray) (w : World) (h : thwartref12_digits.f k a0 = some r) :
  Calls Tryz.prog 93 #[.int .i64 a0] w fun e w' => e = .returned (.string r) ∧ Below w.heap.size w w' := by
 have HB:=Aside0.mk (Below.refl w.heap.size w)
 have H : (thwartref12_digits.l0 k a0 (⟨#[]⟩ : ByteArray) 0) = some r:=h
 clear h
 have H' := Aside0.mk H
 clear H
 go_enter Tryz.func93,Tryz.ntmps93
 go_wp2
 go_loopg [0,3,4] k (fun kq v0 v3 v4 w' => ∃ (x0_1 : Int) (x3_1 : ByteArray) (x4_1 : Int),v0 = .int .i64 x0_1 ∧ v3 = .string x3_1 ∧ v4 = .int .i64 x4_1 ∧ Aside0 (thwartref12_digits.l0 kq x0_1 x3_1 x4_1 = some r) ∧ Aside0 (kq ≤ k) ∧ Aside0 (Below w.heap.size w w'))
 case atStart => exact ⟨(a0),((⟨#[]⟩ : ByteArray)),(0),(by first | rfl | (simp;done) | (simp [*];done)),(by first | rfl | (simp;done) | (simp [*];done)),(by first | rfl | (simp;done) | (simp [*];done)),H',⟨Nat.le_refl _⟩,⟨by repeat (first | (with_reducible first | exact HB.out | apply below_alloc | apply pw_below_drewN | apply below_drew1) | exact HB.out)⟩⟩
 case round =>
  clear H'
  obtain ⟨x0_1,x3_1,x4_1,rfl,rfl,rfl,HA,HK1,HB⟩:=hrel
  cases gk with
  | zero => exact absurd HA.out (by simp [thwartref12_digits.l0])
  | succ k1 =>
   have H:=HA.out
   clear HA
   simp only [thwartref12_digits.l0] at H
   by_cases c2 : x4_1 < 6
   ·rw [if_pos c2] at H
    have c2b0 : decide (x4_1 < 6) = true:=decide_eq_true c2
    clear c2
    obtain ⟨y283,hy283⟩ : ∃ y_ : List Int,y_ = (([(wrap64 (48 + (Int.tmod x0_1 10))) % 256] : List Int)):=⟨_,rfl⟩
    replace H : (if (strOfNums y283).size + x3_1.size ≤ 9223372036854775807 then (thwartref12_digits.l0 k1 (wrap64 (Int.tdiv x0_1 10)) ((strOfNums y283) ++ x3_1) (wrap64 (x4_1 + 1))) else (none)) = some r:=by first | (rw [hy283];with_reducible exact H) | (have H2_:=(Option.bind_some _ _).symm.trans H;rw [hy283];with_reducible exact H2_) | (have H2_:=(Option.bind_some _ _).symm.trans H;with_reducible exact H2_) | with_reducible exact H | (rw [hy283];exact H) | exact H
    have Ny283:=Aside0.mk hy283
    clear hy283
    by_cases c3 : (strOfNums y283).size + x3_1.size ≤ 9223372036854775807
    ·rw [if_pos c3] at H
     have c3b0:=eq_true c3
     have c3b1 : decide ((strOfNums y283).size + x3_1.size ≤ 9223372036854775807) = true:=decide_eq_true c3
     try have c3b2 : (9223372036854775807 < (strOfNums y283).size + x3_1.size) = False:=eq_false (Nat.not_lt.2 c3)
     have H' := Aside0.mk H
     clear H
     go_wp2_with (first | ((with_reducible refine gate_dst (N:=13) rfl ?_);refine Kd.R_lit (Kd.int .u8) _ 5 ?hg (N:=13) ?hd (xs:=([(wrap64 (48 + (Int.tmod x0_1 10))) % 256] : List Int)) (inner:=[.int .u8 ((wrap64 (48 + (Int.tmod x0_1 10))) % 256)]) (ok:=fun _ => True) (okp:=fun _ => True) ?hr ?hp (fun _ hk => hk) trivial (Below.refl _ _) (Nat.le_refl _) (by simp) ?_;(case hd => rfl);(case hg => rfl);(case hr => first | (go_simp;done) | (go_simp;rfl));(case hp => exact (Reps.one (show Kd.M (Kd.int .u8) _ _ _ ((wrap64 (48 + (Int.tmod x0_1 10))) % 256) [.int .u8 ((wrap64 (48 + (Int.tmod x0_1 10))) % 256)] from rfl) (Reps.none _ _)));intro v284 w4 ho5 hb hg_ hnew_;clear hg_ hnew_;(first | rw [← Ny283.out] at ho5 | (simp only [Int.reduceToNat] at ho5;rw [← Ny283.out] at ho5));have n0_:=Aside0.mk (Kd.R_lower ho5 (below_size (by repeat (first | (with_reducible first | exact HB.out | apply below_alloc | apply pw_below_drewN | apply below_drew1) | exact HB.out))));have n1_:=Aside0.mk (below_step (by repeat (first | (with_reducible first | exact HB.out | apply below_alloc | apply pw_below_drewN | apply below_drew1) | exact HB.out)) hb);clear HB;have HO285:=n0_;have HB:=n1_;clear n0_ n1_;clear hb ho5;have hcv6:=own_string (P:=Tryz.prog) Tryz.underlying154 Tryz.underlying5 Tryz.underlying9 (Kd.own_of_R HO285.out)))
     go_roundg k1
     case measure => have:=HK1.out;omega
     case rel => exact ⟨(wrap64 (Int.tdiv x0_1 10)),((strOfNums y283) ++ x3_1),(wrap64 (x4_1 + 1)),(by first | rfl | (simp;done) | (simp [*];done)),(by first | rfl | (simp;done) | (simp [*];done)),(by first | rfl | (simp;done) | (simp [*];done)),H',⟨by have:=HK1.out;omega⟩,⟨by repeat (first | (with_reducible first | exact HB.out | apply below_alloc | apply pw_below_drewN | apply below_drew1) | exact HB.out)⟩⟩
    ·rw [if_neg c3] at H
     exact absurd H (by simp)
   ·rw [if_neg c2] at H
    have c2b0 : decide (x4_1 < 6) = false:=decide_eq_false c2
    clear c2
    obtain rfl:=Option.some.inj H
    go_wp2
    go_ret
    exact ⟨by first | rfl | (simp [errW_none,errW_some] <;> rfl) | (simp [*,errW_none,errW_some] <;> rfl) | (simp [errW_none,errW_some];exact isEmpty_bne _),by repeat (first | (with_reducible first | exact HB.out | apply below_alloc | apply pw_below_drewN | apply below_drew1) | exact HB.out)⟩

/-! ### thwartref12_Name: function 57 -/
def thwartref12_Name.f (k : Nat) (a0 : Int) : Option (ByteArray):=if a0 < 1 then (some (⟨#[]⟩ : ByteArray)) else (if a0 > 999999 then (some (⟨#[]⟩ : ByteArray)) else ((thwartref12_digits.f k a0).bind fun t286 => (if 1 + t286.size ≤ 9223372036854775807 then (some ((⟨#[109]⟩ : ByteArray) ++ t286)) else (none))))
theorem thwartref12_Name.mono : ∀ a0 k,LeO (thwartref12_Name.f k a0) (thwartref12_Name.f (k + 1) a0):=by
 intro a0 k
 unfold thwartref12_Name.f
 repeat' first
   | (with_reducible exact thwartref12_digits.mono _ _)
   | (with_reducible exact LeO.refl _)
   | (with_reducible exact LeO.none _)
   | (with_reducible refine LeO.ite ?_ ?_)
   | (with_reducible refine LeO.bind ?_ (fun _ => ?_))
   | exact thwartref12_digits.mono _ _
   | exact LeO.none _
   | refine LeO.ite ?_ ?_
   | refine LeO.bind ?_ (fun _ => ?_)
set_option maxHeartbeats 8000000 in
set_option maxRecDepth 100000 in
theorem thwartref12_Name.calls (k : Nat) (a0 : Int) (r : ByteArray) (w : World) (h : thwartref12_Name.f k a0 = some r) :
  Calls Tryz.prog 57 #[.int .i64 a0] w fun e w' => e = .returned (.string r) ∧ Below w.heap.size w w' := by
 have HB:=Aside0.mk (Below.refl w.heap.size w)
 have H : (if a0 < 1 then (some (⟨#[]⟩ : ByteArray)) else (if a0 > 999999 then (some (⟨#[]⟩ : ByteArray)) else ((thwartref12_digits.f k a0).bind fun t286 => (if 1 + t286.size ≤ 9223372036854775807 then (some ((⟨#[109]⟩ : ByteArray) ++ t286)) else (none))))) = some r:=h
 clear h
 by_cases c2 : a0 < 1
 ·rw [if_pos c2] at H
  have c2b0 : decide (a0 < 1) = true:=decide_eq_true c2
  clear c2
  obtain rfl:=Option.some.inj H
  go_enter Tryz.func57,Tryz.ntmps57
  go_wp2
  go_ret
  exact ⟨by first | rfl | (simp [errW_none,errW_some] <;> rfl) | (simp [*,errW_none,errW_some] <;> rfl) | (simp [errW_none,errW_some];exact isEmpty_bne _),by repeat (first | (with_reducible first | exact HB.out | apply below_alloc | apply pw_below_drewN | apply below_drew1) | exact HB.out)⟩
 ·rw [if_neg c2] at H
  have c2b0 : decide (a0 < 1) = false:=decide_eq_false c2
  clear c2
  by_cases c3 : a0 > 999999
  ·rw [if_pos c3] at H
   have c3b0 : decide (999999 < a0) = true:=decide_eq_true c3
   clear c3
   obtain rfl:=Option.some.inj H
   go_enter Tryz.func57,Tryz.ntmps57
   go_wp2
   go_ret
   exact ⟨by first | rfl | (simp [errW_none,errW_some] <;> rfl) | (simp [*,errW_none,errW_some] <;> rfl) | (simp [errW_none,errW_some];exact isEmpty_bne _),by repeat (first | (with_reducible first | exact HB.out | apply below_alloc | apply pw_below_drewN | apply below_drew1) | exact HB.out)⟩
  ·rw [if_neg c3] at H
   have c3b0 : decide (999999 < a0) = false:=decide_eq_false c3
   clear c3
   replace H:=Option.bind_eq_some_iff.mp H
   obtain ⟨t286,A40,H⟩:=H
   replace H : (if 1 + t286.size ≤ 9223372036854775807 then (some ((⟨#[109]⟩ : ByteArray) ++ t286)) else (none)) = some r:=H
   have A4:=Aside0.mk A40
   clear A40
   by_cases c5 : 1 + t286.size ≤ 9223372036854775807
   ·rw [if_pos c5] at H
    have c5b0:=eq_true c5
    have c5b1 : decide (1 + t286.size ≤ 9223372036854775807) = true:=decide_eq_true c5
    try have c5b2 : (9223372036854775807 < 1 + t286.size) = False:=eq_false (Nat.not_lt.2 c5)
    obtain rfl:=Option.some.inj H
    go_enter Tryz.func57,Tryz.ntmps57
    go_wp2_with (first | ((with_reducible refine gate_callee (f:=93) rfl ?_);refine goesL_ (some 10) rfl rfl Tryz.func93 (by kernel_rfl) rfl #[.int .i64 a0] rfl (by (try simp only [List.map_toArray,List.map_cons,List.map_nil]);first | done | rfl | (simp only [List.length_drop,List.length_take];rfl)) ?_;(with_reducible refine (thwartref12_digits.calls k a0 t286 _ A4.out).mono ?_);rintro e w6 ⟨rfl,hb⟩;refine ⟨_,rfl,?_⟩;have n0_:=Aside0.mk (below_step (by repeat (first | (with_reducible first | exact HB.out | apply below_alloc | apply pw_below_drewN | apply below_drew1) | exact HB.out)) hb);clear HB;have HB:=n0_;clear n0_;(try clear hb);(try clear hb2);(try clear hk);(try clear hi)))
    go_ret
    exact ⟨by first | rfl | (simp [errW_none,errW_some] <;> rfl) | (simp [*,errW_none,errW_some] <;> rfl) | (simp [errW_none,errW_some];exact isEmpty_bne _),by repeat (first | (with_reducible first | exact HB.out | apply below_alloc | apply pw_below_drewN | apply below_drew1) | exact HB.out)⟩
   ·rw [if_neg c5] at H
    exact absurd H (by simp)

/-! ### thwartref12_Version: function 38 -/
def thwartref12_Version.l0 : Nat → ByteArray → Int → Int → Option (Int × Bool)
 | 0,_,_,_ => none
 | k + 1,x0,x4,x5 => if x5 < (x0.size : Int) then (if x5 < 7 then (if 0 ≤ x5 then (thwartref12_Version.l0 k x0 (wrap64 ((wrap64 ((wrap64 (10 * x4)) + (wrap64 (bt x0 x5)))) - 48)) (wrap64 (x5 + 1))) else (none)) else (if x0.toList = ([] : List UInt8) then (some (0,false)) else ((thwartref12_Name.f k x4).bind fun t287 => (if t287.toList = x0.toList then (some (x4,true)) else (some (0,false)))))) else (if x0.toList = ([] : List UInt8) then (some (0,false)) else ((thwartref12_Name.f k x4).bind fun t288 => (if t288.toList = x0.toList then (some (x4,true)) else (some (0,false)))))
def thwartref12_Version.f (k : Nat) (a0 : ByteArray) : Option (Int × Bool):=thwartref12_Version.l0 k a0 0 1
theorem thwartref12_Version.mono_l : ∀ k,(∀ y0 y1 y2,LeO (thwartref12_Version.l0 k y0 y1 y2) (thwartref12_Version.l0 (k + 1) y0 y1 y2))
 | 0 => fun _ _ _ r h => by simp [thwartref12_Version.l0] at h
 | k + 1 => by
  have ih0:=thwartref12_Version.mono_l k
  ·intro y0 y1 y2
   unfold thwartref12_Version.l0
   repeat' first
   | (with_reducible exact ih0 _ _ _)
   | (with_reducible exact thwartref12_Name.mono _ _)
   | (with_reducible exact LeO.refl _)
   | (with_reducible exact LeO.none _)
   | (with_reducible refine LeO.ite ?_ ?_)
   | (with_reducible refine LeO.bind ?_ (fun _ => ?_))
   | exact ih0 _ _ _
   | exact thwartref12_Name.mono _ _
   | exact LeO.none _
   | refine LeO.ite ?_ ?_
   | refine LeO.bind ?_ (fun _ => ?_)
theorem thwartref12_Version.mono : ∀ a0 k,LeO (thwartref12_Version.f k a0) (thwartref12_Version.f (k + 1) a0):=by
 intro a0 k
 have ih0:=thwartref12_Version.mono_l k
 unfold thwartref12_Version.f
 repeat' first
   | (with_reducible exact ih0 _ _ _)
   | (with_reducible exact thwartref12_Name.mono _ _)
   | (with_reducible exact LeO.refl _)
   | (with_reducible exact LeO.none _)
   | (with_reducible refine LeO.ite ?_ ?_)
   | (with_reducible refine LeO.bind ?_ (fun _ => ?_))
   | exact ih0 _ _ _
   | exact thwartref12_Name.mono _ _
   | exact LeO.none _
   | refine LeO.ite ?_ ?_
   | refine LeO.bind ?_ (fun _ => ?_)
set_option maxHeartbeats 8000000 in
set_option maxRecDepth 100000 in
theorem thwartref12_Version.calls (k : Nat) (a0 : ByteArray) (r1 : Int) (r2 : Bool) (w : World) (h : thwartref12_Version.f k a0 = some (r1,r2)) :
  Calls Tryz.prog 38 #[.string a0] w fun e w' => e = .returned (.tuple #[.int .i64 r1,.bool r2]) ∧ Below w.heap.size w w' := by
 have HB:=Aside0.mk (Below.refl w.heap.size w)
 have H : (thwartref12_Version.l0 k a0 0 1) = some (r1,r2):=h
 clear h
 have H' := Aside0.mk H
 clear H
 go_enter Tryz.func38,Tryz.ntmps38
 go_wp2
 go_loopg [4,5] k (fun kq v4 v5 w' => ∃ (x4_1 : Int) (x5_1 : Int),v4 = .int .i64 x4_1 ∧ v5 = .int .i64 x5_1 ∧ Aside0 (thwartref12_Version.l0 kq a0 x4_1 x5_1 = some (r1,r2)) ∧ Aside0 (kq ≤ k) ∧ Aside0 (Below w.heap.size w w'))
 case atStart => exact ⟨(0),(1),(by first | rfl | (simp;done) | (simp [*];done)),(by first | rfl | (simp;done) | (simp [*];done)),H',⟨Nat.le_refl _⟩,⟨by repeat (first | (with_reducible first | exact HB.out | apply below_alloc | apply pw_below_drewN | apply below_drew1) | exact HB.out)⟩⟩
 case round =>
  clear H'
  obtain ⟨x4_1,x5_1,rfl,rfl,HA,HK1,HB⟩:=hrel
  cases gk with
  | zero => exact absurd HA.out (by simp [thwartref12_Version.l0])
  | succ k1 =>
   have H:=HA.out
   clear HA
   simp only [thwartref12_Version.l0] at H
   by_cases c2 : x5_1 < (a0.size : Int)
   ·rw [if_pos c2] at H
    have c2b0 : decide (x5_1 < (a0.size : Int)) = true:=decide_eq_true c2
    clear c2
    by_cases c3 : x5_1 < 7
    ·rw [if_pos c3] at H
     have c3b0 : decide (x5_1 < 7) = true:=decide_eq_true c3
     clear c3
     by_cases c4 : 0 ≤ x5_1
     ·rw [if_pos c4] at H
      have c4b0 : decide (0 ≤ x5_1) = true:=decide_eq_true c4
      clear c4
      have H' := Aside0.mk H
      clear H
      have p5 : 0 ≤ (x5_1 : Int):=of_decide_eq_true (by first | (with_reducible assumption) | assumption)
      have q5 : x5_1 < (a0.size : Int):=of_decide_eq_true (by first | (with_reducible assumption) | assumption)
      have hx5:=bt_at a0 x5_1
      replace p5:=eq_true p5
      replace q5:=eq_true q5
      go_wp2
      go_roundg k1
      case measure => have:=HK1.out;omega
      case rel => exact ⟨(wrap64 ((wrap64 ((wrap64 (10 * x4_1)) + (wrap64 (bt a0 x5_1)))) - 48)),(wrap64 (x5_1 + 1)),(by first | rfl | (simp;done) | (simp [*];done)),(by first | rfl | (simp;done) | (simp [*];done)),H',⟨by have:=HK1.out;omega⟩,⟨by repeat (first | (with_reducible first | exact HB.out | apply below_alloc | apply pw_below_drewN | apply below_drew1) | exact HB.out)⟩⟩
     ·rw [if_neg c4] at H
      exact absurd H (by simp)
    ·rw [if_neg c3] at H
     have c3b0 : decide (x5_1 < 7) = false:=decide_eq_false c3
     clear c3
     by_cases c6 : a0.toList = ([] : List UInt8)
     ·rw [if_pos c6] at H
      have c6b0 : (a0.toList == ([] : List UInt8)) = true:=beq_iff_eq.mpr c6
      have c6b1 : (a0.toList != ([] : List UInt8)) = false:=bne_eq_false_iff_eq.mpr c6
      clear c6
      simp only [Option.some.injEq,Prod.mk.injEq] at H
      obtain ⟨rfl,rfl⟩:=H
      go_wp2
      go_ret2
      exact ⟨by first | rfl | (simp [errW_none,errW_some] <;> rfl) | (simp [*,errW_none,errW_some] <;> rfl) | (simp [errW_none,errW_some];exact isEmpty_bne _),by repeat (first | (with_reducible first | exact HB.out | apply below_alloc | apply pw_below_drewN | apply below_drew1) | exact HB.out)⟩
     ·rw [if_neg c6] at H
      have c6b0 : (a0.toList == ([] : List UInt8)) = false:=beq_eq_false_iff_ne.mpr c6
      have c6b1 : (a0.toList != ([] : List UInt8)) = true:=bne_iff_ne.mpr c6
      replace H:=Option.bind_eq_some_iff.mp H
      obtain ⟨t287,A70,H⟩:=H
      replace H : (if t287.toList = a0.toList then (some (x4_1,true)) else (some (0,false))) = some (r1,r2):=H
      have A7:=Aside0.mk A70
      clear A70
      by_cases c8 : t287.toList = a0.toList
      ·rw [if_pos c8] at H
       have c8b0 : (t287.toList == a0.toList) = true:=beq_iff_eq.mpr c8
       have c8b1 : (t287.toList != a0.toList) = false:=bne_eq_false_iff_eq.mpr c8
       clear c8
       simp only [Option.some.injEq,Prod.mk.injEq] at H
       obtain ⟨rfl,rfl⟩:=H
       go_wp2_with (first | (go_at_call 57;(with_reducible refine (thwartref12_Name.calls k1 x4_1 t287 _ A7.out).mono ?_);rintro e w9 ⟨rfl,hb⟩;have n0_:=Aside0.mk (below_step (by repeat (first | (with_reducible first | exact HB.out | apply below_alloc | apply pw_below_drewN | apply below_drew1) | exact HB.out)) hb);clear HB;have HB:=n0_;clear n0_;(try clear hb);(try clear hb2);(try clear hk);(try clear hi)))
       go_ret2
       exact ⟨by first | rfl | (simp [errW_none,errW_some] <;> rfl) | (simp [*,errW_none,errW_some] <;> rfl) | (simp [errW_none,errW_some];exact isEmpty_bne _),by repeat (first | (with_reducible first | exact HB.out | apply below_alloc | apply pw_below_drewN | apply below_drew1) | exact HB.out)⟩
      ·rw [if_neg c8] at H
       have c8b0 : (t287.toList == a0.toList) = false:=beq_eq_false_iff_ne.mpr c8
       have c8b1 : (t287.toList != a0.toList) = true:=bne_iff_ne.mpr c8
       simp only [Option.some.injEq,Prod.mk.injEq] at H
       obtain ⟨rfl,rfl⟩:=H
       go_wp2_with (first | (go_at_call 57;(with_reducible refine (thwartref12_Name.calls k1 x4_1 t287 _ A7.out).mono ?_);rintro e w10 ⟨rfl,hb⟩;have n0_:=Aside0.mk (below_step (by repeat (first | (with_reducible first | exact HB.out | apply below_alloc | apply pw_below_drewN | apply below_drew1) | exact HB.out)) hb);clear HB;have HB:=n0_;clear n0_;(try clear hb);(try clear hb2);(try clear hk);(try clear hi)))
       go_ret2
       exact ⟨by first | rfl | (simp [errW_none,errW_some] <;> rfl) | (simp [*,errW_none,errW_some] <;> rfl) | (simp [errW_none,errW_some];exact isEmpty_bne _),by repeat (first | (with_reducible first | exact HB.out | apply below_alloc | apply pw_below_drewN | apply below_drew1) | exact HB.out)⟩
   ·rw [if_neg c2] at H
    have c2b0 : decide (x5_1 < (a0.size : Int)) = false:=decide_eq_false c2
    clear c2
    by_cases c11 : a0.toList = ([] : List UInt8)
    ·rw [if_pos c11] at H
     have c11b0 : (a0.toList == ([] : List UInt8)) = true:=beq_iff_eq.mpr c11
     have c11b1 : (a0.toList != ([] : List UInt8)) = false:=bne_eq_false_iff_eq.mpr c11
     clear c11
     simp only [Option.some.injEq,Prod.mk.injEq] at H
     obtain ⟨rfl,rfl⟩:=H
     go_wp2
     go_ret2
     exact ⟨by first | rfl | (simp [errW_none,errW_some] <;> rfl) | (simp [*,errW_none,errW_some] <;> rfl) | (simp [errW_none,errW_some];exact isEmpty_bne _),by repeat (first | (with_reducible first | exact HB.out | apply below_alloc | apply pw_below_drewN | apply below_drew1) | exact HB.out)⟩
    ·rw [if_neg c11] at H
     have c11b0 : (a0.toList == ([] : List UInt8)) = false:=beq_eq_false_iff_ne.mpr c11
     have c11b1 : (a0.toList != ([] : List UInt8)) = true:=bne_iff_ne.mpr c11
     replace H:=Option.bind_eq_some_iff.mp H
     obtain ⟨t288,A120,H⟩:=H
     replace H : (if t288.toList = a0.toList then (some (x4_1,true)) else (some (0,false))) = some (r1,r2):=H
     have A12:=Aside0.mk A120
     clear A120
     by_cases c13 : t288.toList = a0.toList
     ·rw [if_pos c13] at H
      have c13b0 : (t288.toList == a0.toList) = true:=beq_iff_eq.mpr c13
      have c13b1 : (t288.toList != a0.toList) = false:=bne_eq_false_iff_eq.mpr c13
      clear c13
      simp only [Option.some.injEq,Prod.mk.injEq] at H
      obtain ⟨rfl,rfl⟩:=H
      go_wp2_with (first | (go_at_call 57;(with_reducible refine (thwartref12_Name.calls k1 x4_1 t288 _ A12.out).mono ?_);rintro e w14 ⟨rfl,hb⟩;have n0_:=Aside0.mk (below_step (by repeat (first | (with_reducible first | exact HB.out | apply below_alloc | apply pw_below_drewN | apply below_drew1) | exact HB.out)) hb);clear HB;have HB:=n0_;clear n0_;(try clear hb);(try clear hb2);(try clear hk);(try clear hi)))
      go_ret2
      exact ⟨by first | rfl | (simp [errW_none,errW_some] <;> rfl) | (simp [*,errW_none,errW_some] <;> rfl) | (simp [errW_none,errW_some];exact isEmpty_bne _),by repeat (first | (with_reducible first | exact HB.out | apply below_alloc | apply pw_below_drewN | apply below_drew1) | exact HB.out)⟩
     ·rw [if_neg c13] at H
      have c13b0 : (t288.toList == a0.toList) = false:=beq_eq_false_iff_ne.mpr c13
      have c13b1 : (t288.toList != a0.toList) = true:=bne_iff_ne.mpr c13
      simp only [Option.some.injEq,Prod.mk.injEq] at H
      obtain ⟨rfl,rfl⟩:=H
      go_wp2_with (first | (go_at_call 57;(with_reducible refine (thwartref12_Name.calls k1 x4_1 t288 _ A12.out).mono ?_);rintro e w15 ⟨rfl,hb⟩;have n0_:=Aside0.mk (below_step (by repeat (first | (with_reducible first | exact HB.out | apply below_alloc | apply pw_below_drewN | apply below_drew1) | exact HB.out)) hb);clear HB;have HB:=n0_;clear n0_;(try clear hb);(try clear hb2);(try clear hk);(try clear hi)))
      go_ret2
      exact ⟨by first | rfl | (simp [errW_none,errW_some] <;> rfl) | (simp [*,errW_none,errW_some] <;> rfl) | (simp [errW_none,errW_some];exact isEmpty_bne _),by repeat (first | (with_reducible first | exact HB.out | apply below_alloc | apply pw_below_drewN | apply below_drew1) | exact HB.out)⟩

/-! ### thwartref12_Object: function 58 -/
def thwartref12_Object.f (k : Nat) (a0 : Int) : Option (ByteArray):=if a0 < 0 then (some (⟨#[]⟩ : ByteArray)) else (if a0 > 999999 then (some (⟨#[]⟩ : ByteArray)) else ((thwartref12_digits.f k a0).bind fun t289 => (if 1 + t289.size ≤ 9223372036854775807 then (some ((⟨#[111]⟩ : ByteArray) ++ t289)) else (none))))
theorem thwartref12_Object.mono : ∀ a0 k,LeO (thwartref12_Object.f k a0) (thwartref12_Object.f (k + 1) a0):=by
 intro a0 k
 unfold thwartref12_Object.f
 repeat' first
   | (with_reducible exact thwartref12_digits.mono _ _)
   | (with_reducible exact LeO.refl _)
   | (with_reducible exact LeO.none _)
   | (with_reducible refine LeO.ite ?_ ?_)
   | (with_reducible refine LeO.bind ?_ (fun _ => ?_))
   | exact thwartref12_digits.mono _ _
   | exact LeO.none _
   | refine LeO.ite ?_ ?_
   | refine LeO.bind ?_ (fun _ => ?_)
set_option maxHeartbeats 8000000 in
set_option maxRecDepth 100000 in
theorem thwartref12_Object.calls (k : Nat) (a0 : Int) (r : ByteArray) (w : World) (h : thwartref12_Object.f k a0 = some r) :
  Calls Tryz.prog 58 #[.int .i64 a0] w fun e w' => e = .returned (.string r) ∧ Below w.heap.size w w' := by
 have HB:=Aside0.mk (Below.refl w.heap.size w)
 have H : (if a0 < 0 then (some (⟨#[]⟩ : ByteArray)) else (if a0 > 999999 then (some (⟨#[]⟩ : ByteArray)) else ((thwartref12_digits.f k a0).bind fun t289 => (if 1 + t289.size ≤ 9223372036854775807 then (some ((⟨#[111]⟩ : ByteArray) ++ t289)) else (none))))) = some r:=h
 clear h
 by_cases c2 : a0 < 0
 ·rw [if_pos c2] at H
  have c2b0 : decide (a0 < 0) = true:=decide_eq_true c2
  clear c2
  obtain rfl:=Option.some.inj H
  go_enter Tryz.func58,Tryz.ntmps58
  go_wp2
  go_ret
  exact ⟨by first | rfl | (simp [errW_none,errW_some] <;> rfl) | (simp [*,errW_none,errW_some] <;> rfl) | (simp [errW_none,errW_some];exact isEmpty_bne _),by repeat (first | (with_reducible first | exact HB.out | apply below_alloc | apply pw_below_drewN | apply below_drew1) | exact HB.out)⟩
 ·rw [if_neg c2] at H
  have c2b0 : decide (a0 < 0) = false:=decide_eq_false c2
  clear c2
  by_cases c3 : a0 > 999999
  ·rw [if_pos c3] at H
   have c3b0 : decide (999999 < a0) = true:=decide_eq_true c3
   clear c3
   obtain rfl:=Option.some.inj H
   go_enter Tryz.func58,Tryz.ntmps58
   go_wp2
   go_ret
   exact ⟨by first | rfl | (simp [errW_none,errW_some] <;> rfl) | (simp [*,errW_none,errW_some] <;> rfl) | (simp [errW_none,errW_some];exact isEmpty_bne _),by repeat (first | (with_reducible first | exact HB.out | apply below_alloc | apply pw_below_drewN | apply below_drew1) | exact HB.out)⟩
  ·rw [if_neg c3] at H
   have c3b0 : decide (999999 < a0) = false:=decide_eq_false c3
   clear c3
   replace H:=Option.bind_eq_some_iff.mp H
   obtain ⟨t289,A40,H⟩:=H
   replace H : (if 1 + t289.size ≤ 9223372036854775807 then (some ((⟨#[111]⟩ : ByteArray) ++ t289)) else (none)) = some r:=H
   have A4:=Aside0.mk A40
   clear A40
   by_cases c5 : 1 + t289.size ≤ 9223372036854775807
   ·rw [if_pos c5] at H
    have c5b0:=eq_true c5
    have c5b1 : decide (1 + t289.size ≤ 9223372036854775807) = true:=decide_eq_true c5
    try have c5b2 : (9223372036854775807 < 1 + t289.size) = False:=eq_false (Nat.not_lt.2 c5)
    obtain rfl:=Option.some.inj H
    go_enter Tryz.func58,Tryz.ntmps58
    go_wp2_with (first | ((with_reducible refine gate_callee (f:=93) rfl ?_);refine goesL_ (some 10) rfl rfl Tryz.func93 (by kernel_rfl) rfl #[.int .i64 a0] rfl (by (try simp only [List.map_toArray,List.map_cons,List.map_nil]);first | done | rfl | (simp only [List.length_drop,List.length_take];rfl)) ?_;(with_reducible refine (thwartref12_digits.calls k a0 t289 _ A4.out).mono ?_);rintro e w6 ⟨rfl,hb⟩;refine ⟨_,rfl,?_⟩;have n0_:=Aside0.mk (below_step (by repeat (first | (with_reducible first | exact HB.out | apply below_alloc | apply pw_below_drewN | apply below_drew1) | exact HB.out)) hb);clear HB;have HB:=n0_;clear n0_;(try clear hb);(try clear hb2);(try clear hk);(try clear hi)))
    go_ret
    exact ⟨by first | rfl | (simp [errW_none,errW_some] <;> rfl) | (simp [*,errW_none,errW_some] <;> rfl) | (simp [errW_none,errW_some];exact isEmpty_bne _),by repeat (first | (with_reducible first | exact HB.out | apply below_alloc | apply pw_below_drewN | apply below_drew1) | exact HB.out)⟩
   ·rw [if_neg c5] at H
    exact absurd H (by simp)

/-! ### thwartref13_number: function 39 -/
def thwartref13_number.l0 : Nat → ByteArray → Int → Int → Option (Int)
 | 0,_,_,_ => none
 | k + 1,x0,x3,x4 => if x4 < (x0.size : Int) then (if x4 < 7 then (if 0 ≤ x4 then (thwartref13_number.l0 k x0 (wrap64 ((wrap64 ((wrap64 (10 * x3)) + (wrap64 (bt x0 x4)))) - 48)) (wrap64 (x4 + 1))) else (none)) else (if x0.toList = ([] : List UInt8) then (some (-1)) else ((thwartref12_Object.f k x3).bind fun t290 => (if t290.toList = x0.toList then (some x3) else (some (-1)))))) else (if x0.toList = ([] : List UInt8) then (some (-1)) else ((thwartref12_Object.f k x3).bind fun t291 => (if t291.toList = x0.toList then (some x3) else (some (-1)))))
def thwartref13_number.f (k : Nat) (a0 : ByteArray) : Option (Int):=thwartref13_number.l0 k a0 0 1
theorem thwartref13_number.mono_l : ∀ k,(∀ y0 y1 y2,LeO (thwartref13_number.l0 k y0 y1 y2) (thwartref13_number.l0 (k + 1) y0 y1 y2))
 | 0 => fun _ _ _ r h => by simp [thwartref13_number.l0] at h
 | k + 1 => by
  have ih0:=thwartref13_number.mono_l k
  ·intro y0 y1 y2
   unfold thwartref13_number.l0
   repeat' first
   | (with_reducible exact ih0 _ _ _)
   | (with_reducible exact thwartref12_Object.mono _ _)
   | (with_reducible exact LeO.refl _)
   | (with_reducible exact LeO.none _)
   | (with_reducible refine LeO.ite ?_ ?_)
   | (with_reducible refine LeO.bind ?_ (fun _ => ?_))
   | exact ih0 _ _ _
   | exact thwartref12_Object.mono _ _
   | exact LeO.none _
   | refine LeO.ite ?_ ?_
   | refine LeO.bind ?_ (fun _ => ?_)
theorem thwartref13_number.mono : ∀ a0 k,LeO (thwartref13_number.f k a0) (thwartref13_number.f (k + 1) a0):=by
 intro a0 k
 have ih0:=thwartref13_number.mono_l k
 unfold thwartref13_number.f
 repeat' first
   | (with_reducible exact ih0 _ _ _)
   | (with_reducible exact thwartref12_Object.mono _ _)
   | (with_reducible exact LeO.refl _)
   | (with_reducible exact LeO.none _)
   | (with_reducible refine LeO.ite ?_ ?_)
   | (with_reducible refine LeO.bind ?_ (fun _ => ?_))
   | exact ih0 _ _ _
   | exact thwartref12_Object.mono _ _
   | exact LeO.none _
   | refine LeO.ite ?_ ?_
   | refine LeO.bind ?_ (fun _ => ?_)
set_option maxHeartbeats 8000000 in
set_option maxRecDepth 100000 in
theorem thwartref13_number.calls (k : Nat) (a0 : ByteArray) (r : Int) (w : World) (h : thwartref13_number.f k a0 = some r) :
  Calls Tryz.prog 39 #[.string a0] w fun e w' => e = .returned (.int .i64 r) ∧ Below w.heap.size w w' := by
 have HB:=Aside0.mk (Below.refl w.heap.size w)
 have H : (thwartref13_number.l0 k a0 0 1) = some r:=h
 clear h
 have H' := Aside0.mk H
 clear H
 go_enter Tryz.func39,Tryz.ntmps39
 go_wp2
 go_loopg [3,4] k (fun kq v3 v4 w' => ∃ (x3_1 : Int) (x4_1 : Int),v3 = .int .i64 x3_1 ∧ v4 = .int .i64 x4_1 ∧ Aside0 (thwartref13_number.l0 kq a0 x3_1 x4_1 = some r) ∧ Aside0 (kq ≤ k) ∧ Aside0 (Below w.heap.size w w'))
 case atStart => exact ⟨(0),(1),(by first | rfl | (simp;done) | (simp [*];done)),(by first | rfl | (simp;done) | (simp [*];done)),H',⟨Nat.le_refl _⟩,⟨by repeat (first | (with_reducible first | exact HB.out | apply below_alloc | apply pw_below_drewN | apply below_drew1) | exact HB.out)⟩⟩
 case round =>
  clear H'
  obtain ⟨x3_1,x4_1,rfl,rfl,HA,HK1,HB⟩:=hrel
  cases gk with
  | zero => exact absurd HA.out (by simp [thwartref13_number.l0])
  | succ k1 =>
   have H:=HA.out
   clear HA
   simp only [thwartref13_number.l0] at H
   by_cases c2 : x4_1 < (a0.size : Int)
   ·rw [if_pos c2] at H
    have c2b0 : decide (x4_1 < (a0.size : Int)) = true:=decide_eq_true c2
    clear c2
    by_cases c3 : x4_1 < 7
    ·rw [if_pos c3] at H
     have c3b0 : decide (x4_1 < 7) = true:=decide_eq_true c3
     clear c3
     by_cases c4 : 0 ≤ x4_1
     ·rw [if_pos c4] at H
      have c4b0 : decide (0 ≤ x4_1) = true:=decide_eq_true c4
      clear c4
      have H' := Aside0.mk H
      clear H
      have p5 : 0 ≤ (x4_1 : Int):=of_decide_eq_true (by first | (with_reducible assumption) | assumption)
      have q5 : x4_1 < (a0.size : Int):=of_decide_eq_true (by first | (with_reducible assumption) | assumption)
      have hx5:=bt_at a0 x4_1
      replace p5:=eq_true p5
      replace q5:=eq_true q5
      go_wp2
      go_roundg k1
      case measure => have:=HK1.out;omega
      case rel => exact ⟨(wrap64 ((wrap64 ((wrap64 (10 * x3_1)) + (wrap64 (bt a0 x4_1)))) - 48)),(wrap64 (x4_1 + 1)),(by first | rfl | (simp;done) | (simp [*];done)),(by first | rfl | (simp;done) | (simp [*];done)),H',⟨by have:=HK1.out;omega⟩,⟨by repeat (first | (with_reducible first | exact HB.out | apply below_alloc | apply pw_below_drewN | apply below_drew1) | exact HB.out)⟩⟩
     ·rw [if_neg c4] at H
      exact absurd H (by simp)
    ·rw [if_neg c3] at H
     have c3b0 : decide (x4_1 < 7) = false:=decide_eq_false c3
     clear c3
     by_cases c6 : a0.toList = ([] : List UInt8)
     ·rw [if_pos c6] at H
      have c6b0 : (a0.toList == ([] : List UInt8)) = true:=beq_iff_eq.mpr c6
      have c6b1 : (a0.toList != ([] : List UInt8)) = false:=bne_eq_false_iff_eq.mpr c6
      clear c6
      obtain rfl:=Option.some.inj H
      go_wp2
      go_ret
      exact ⟨by first | rfl | (simp [errW_none,errW_some] <;> rfl) | (simp [*,errW_none,errW_some] <;> rfl) | (simp [errW_none,errW_some];exact isEmpty_bne _),by repeat (first | (with_reducible first | exact HB.out | apply below_alloc | apply pw_below_drewN | apply below_drew1) | exact HB.out)⟩
     ·rw [if_neg c6] at H
      have c6b0 : (a0.toList == ([] : List UInt8)) = false:=beq_eq_false_iff_ne.mpr c6
      have c6b1 : (a0.toList != ([] : List UInt8)) = true:=bne_iff_ne.mpr c6
      replace H:=Option.bind_eq_some_iff.mp H
      obtain ⟨t290,A70,H⟩:=H
      replace H : (if t290.toList = a0.toList then (some x3_1) else (some (-1))) = some r:=H
      have A7:=Aside0.mk A70
      clear A70
      by_cases c8 : t290.toList = a0.toList
      ·rw [if_pos c8] at H
       have c8b0 : (t290.toList == a0.toList) = true:=beq_iff_eq.mpr c8
       have c8b1 : (t290.toList != a0.toList) = false:=bne_eq_false_iff_eq.mpr c8
       clear c8
       obtain rfl:=Option.some.inj H
       go_wp2_with (first | (go_at_call 58;(with_reducible refine (thwartref12_Object.calls k1 x3_1 t290 _ A7.out).mono ?_);rintro e w9 ⟨rfl,hb⟩;have n0_:=Aside0.mk (below_step (by repeat (first | (with_reducible first | exact HB.out | apply below_alloc | apply pw_below_drewN | apply below_drew1) | exact HB.out)) hb);clear HB;have HB:=n0_;clear n0_;(try clear hb);(try clear hb2);(try clear hk);(try clear hi)))
       go_ret
       exact ⟨by first | rfl | (simp [errW_none,errW_some] <;> rfl) | (simp [*,errW_none,errW_some] <;> rfl) | (simp [errW_none,errW_some];exact isEmpty_bne _),by repeat (first | (with_reducible first | exact HB.out | apply below_alloc | apply pw_below_drewN | apply below_drew1) | exact HB.out)⟩
      ·rw [if_neg c8] at H
       have c8b0 : (t290.toList == a0.toList) = false:=beq_eq_false_iff_ne.mpr c8
       have c8b1 : (t290.toList != a0.toList) = true:=bne_iff_ne.mpr c8
       obtain rfl:=Option.some.inj H
       go_wp2_with (first | (go_at_call 58;(with_reducible refine (thwartref12_Object.calls k1 x3_1 t290 _ A7.out).mono ?_);rintro e w10 ⟨rfl,hb⟩;have n0_:=Aside0.mk (below_step (by repeat (first | (with_reducible first | exact HB.out | apply below_alloc | apply pw_below_drewN | apply below_drew1) | exact HB.out)) hb);clear HB;have HB:=n0_;clear n0_;(try clear hb);(try clear hb2);(try clear hk);(try clear hi)))
       go_ret
       exact ⟨by first | rfl | (simp [errW_none,errW_some] <;> rfl) | (simp [*,errW_none,errW_some] <;> rfl) | (simp [errW_none,errW_some];exact isEmpty_bne _),by repeat (first | (with_reducible first | exact HB.out | apply below_alloc | apply pw_below_drewN | apply below_drew1) | exact HB.out)⟩
   ·rw [if_neg c2] at H
    have c2b0 : decide (x4_1 < (a0.size : Int)) = false:=decide_eq_false c2
    clear c2
    by_cases c11 : a0.toList = ([] : List UInt8)
    ·rw [if_pos c11] at H
     have c11b0 : (a0.toList == ([] : List UInt8)) = true:=beq_iff_eq.mpr c11
     have c11b1 : (a0.toList != ([] : List UInt8)) = false:=bne_eq_false_iff_eq.mpr c11
     clear c11
     obtain rfl:=Option.some.inj H
     go_wp2
     go_ret
     exact ⟨by first | rfl | (simp [errW_none,errW_some] <;> rfl) | (simp [*,errW_none,errW_some] <;> rfl) | (simp [errW_none,errW_some];exact isEmpty_bne _),by repeat (first | (with_reducible first | exact HB.out | apply below_alloc | apply pw_below_drewN | apply below_drew1) | exact HB.out)⟩
    ·rw [if_neg c11] at H
     have c11b0 : (a0.toList == ([] : List UInt8)) = false:=beq_eq_false_iff_ne.mpr c11
     have c11b1 : (a0.toList != ([] : List UInt8)) = true:=bne_iff_ne.mpr c11
     replace H:=Option.bind_eq_some_iff.mp H
     obtain ⟨t291,A120,H⟩:=H
     replace H : (if t291.toList = a0.toList then (some x3_1) else (some (-1))) = some r:=H
     have A12:=Aside0.mk A120
     clear A120
     by_cases c13 : t291.toList = a0.toList
     ·rw [if_pos c13] at H
      have c13b0 : (t291.toList == a0.toList) = true:=beq_iff_eq.mpr c13
      have c13b1 : (t291.toList != a0.toList) = false:=bne_eq_false_iff_eq.mpr c13
      clear c13
      obtain rfl:=Option.some.inj H
      go_wp2_with (first | (go_at_call 58;(with_reducible refine (thwartref12_Object.calls k1 x3_1 t291 _ A12.out).mono ?_);rintro e w14 ⟨rfl,hb⟩;have n0_:=Aside0.mk (below_step (by repeat (first | (with_reducible first | exact HB.out | apply below_alloc | apply pw_below_drewN | apply below_drew1) | exact HB.out)) hb);clear HB;have HB:=n0_;clear n0_;(try clear hb);(try clear hb2);(try clear hk);(try clear hi)))
      go_ret
      exact ⟨by first | rfl | (simp [errW_none,errW_some] <;> rfl) | (simp [*,errW_none,errW_some] <;> rfl) | (simp [errW_none,errW_some];exact isEmpty_bne _),by repeat (first | (with_reducible first | exact HB.out | apply below_alloc | apply pw_below_drewN | apply below_drew1) | exact HB.out)⟩
     ·rw [if_neg c13] at H
      have c13b0 : (t291.toList == a0.toList) = false:=beq_eq_false_iff_ne.mpr c13
      have c13b1 : (t291.toList != a0.toList) = true:=bne_iff_ne.mpr c13
      obtain rfl:=Option.some.inj H
      go_wp2_with (first | (go_at_call 58;(with_reducible refine (thwartref12_Object.calls k1 x3_1 t291 _ A12.out).mono ?_);rintro e w15 ⟨rfl,hb⟩;have n0_:=Aside0.mk (below_step (by repeat (first | (with_reducible first | exact HB.out | apply below_alloc | apply pw_below_drewN | apply below_drew1) | exact HB.out)) hb);clear HB;have HB:=n0_;clear n0_;(try clear hb);(try clear hb2);(try clear hk);(try clear hi)))
      go_ret
      exact ⟨by first | rfl | (simp [errW_none,errW_some] <;> rfl) | (simp [*,errW_none,errW_some] <;> rfl) | (simp [errW_none,errW_some];exact isEmpty_bne _),by repeat (first | (with_reducible first | exact HB.out | apply below_alloc | apply pw_below_drewN | apply below_drew1) | exact HB.out)⟩

/-! ### thwartref13_has: function 40 -/
def thwartref13_has.l0 : Nat → Int → Int → Int → List (S65) → Option (Bool)
 | 0,_,_,_,_ => none
 | k + 1,x1,x5,x293000,x293001 => if x5 < (x293001.length : Int) then (if 0 ≤ x5 then (if ((rd_T65 x293001 x5).f0) = x1 then (some true) else (thwartref13_has.l0 k x1 (wrap64 (x5 + 1)) x293000 x293001)) else (none)) else (some false)
def thwartref13_has.f (k : Nat) (a0_0 : Int) (l0_1 : List (S65)) (a1 : Int) : Option (Bool):=thwartref13_has.l0 k a1 0 a0_0 l0_1
theorem thwartref13_has.mono_l : ∀ k,(∀ y0 y1 y2 y3,LeO (thwartref13_has.l0 k y0 y1 y2 y3) (thwartref13_has.l0 (k + 1) y0 y1 y2 y3))
 | 0 => fun _ _ _ _ r h => by simp [thwartref13_has.l0] at h
 | k + 1 => by
  have ih0:=thwartref13_has.mono_l k
  ·intro y0 y1 y2 y3
   unfold thwartref13_has.l0
   repeat' first
   | (with_reducible exact ih0 _ _ _ _)
   | (with_reducible exact LeO.refl _)
   | (with_reducible exact LeO.none _)
   | (with_reducible refine LeO.ite ?_ ?_)
   | (with_reducible refine LeO.bind ?_ (fun _ => ?_))
   | exact ih0 _ _ _ _
   | exact LeO.none _
   | refine LeO.ite ?_ ?_
   | refine LeO.bind ?_ (fun _ => ?_)
theorem thwartref13_has.mono : ∀ a0 a1 a2 k,LeO (thwartref13_has.f k a0 a1 a2) (thwartref13_has.f (k + 1) a0 a1 a2):=by
 intro a0 a1 a2 k
 have ih0:=thwartref13_has.mono_l k
 unfold thwartref13_has.f
 repeat' first
   | (with_reducible exact ih0 _ _ _ _)
   | (with_reducible exact LeO.refl _)
   | (with_reducible exact LeO.none _)
   | (with_reducible refine LeO.ite ?_ ?_)
   | (with_reducible refine LeO.bind ?_ (fun _ => ?_))
   | exact ih0 _ _ _ _
   | exact LeO.none _
   | refine LeO.ite ?_ ?_
   | refine LeO.bind ?_ (fun _ => ?_)
set_option maxHeartbeats 8000000 in
set_option maxRecDepth 100000 in
theorem thwartref13_has.calls (k : Nat) (a0_0 : Int) (A0_1 : Option Addr) (c0_1 : Nat) (l0_1 : List (S65)) (a1 : Int) (r : Bool) (w : World) (hr0_1 : Kd.C k65 w A0_1 l0_1.length l0_1) (hc0_1 : l0_1.length ≤ c0_1) (h : thwartref13_has.f k a0_0 l0_1 a1 = some r) :
  Calls Tryz.prog 40 #[.agg #[.int .i64 a0_0,.slice A0_1 l0_1.length c0_1],.int .i64 a1] w fun e w' => e = .returned (.bool r) ∧ Below w.heap.size w w' := by
 have hu32:=Tryz.underlying32
 have HR0_1:=Aside0.mk hr0_1
 have HC0_1:=Aside0.mk hc0_1
 clear hr0_1 hc0_1
 have HB:=Aside0.mk (Below.refl w.heap.size w)
 have H : (thwartref13_has.l0 k a1 0 a0_0 l0_1) = some r:=h
 clear h
 have H' := Aside0.mk H
 clear H
 go_enter Tryz.func40,Tryz.ntmps40
 go_wp2_with (first | ((with_reducible refine gate_dst (N:=2) rfl ?_);refine box_event ?hg (N:=2) ?hd (cs := #[.int .i64 a0_0,.slice A0_1 l0_1.length c0_1]) (t:=32) ?hr ?_;(case hd => rfl);(case hg => rfl);(case hr => first | (go_simp;done) | (go_simp;rfl));intro gb292 hg w3 hbox hb;have n0_:=Aside0.mk (below_step (by repeat (first | (with_reducible first | exact HB.out | apply below_alloc | apply pw_below_drewN | apply below_drew1) | exact HB.out)) hb);have n1_:=Aside0.mk (hbox);have n2_:=Aside0.mk ((by rw [hg];exact (below_size (by repeat (first | (with_reducible first | exact HB.out | apply below_alloc | apply pw_below_drewN | apply below_drew1) | exact HB.out))) : w.heap.size ≤ gb292));have n3_:=Aside0.mk ((by rw [hg];exact (below_size (by repeat (first | (with_reducible first | exact HB.out | apply below_alloc | apply pw_below_drewN | apply below_drew1) | exact HB.out))) : w.heap.size ≤ gb292));clear HB;have HB:=n0_;have BK292:=n1_;have GW292:=n2_;have GE292:=n3_;clear n0_ n1_ n2_ n3_;clear hb hbox hg))
 go_loopg [5] k (fun kq v5 w' => ∃ (x5_1 : Int),v5 = .int .i64 x5_1 ∧ Aside0 (thwartref13_has.l0 kq a1 x5_1 a0_0 l0_1 = some r) ∧ Aside0 (kq ≤ k) ∧ Aside0 (w'.heap[gb292]? = some (.cells #[.int .i64 a0_0,(.slice A0_1 l0_1.length c0_1)] 32 (0,0))) ∧ Aside0 (Below w.heap.size w w'))
 case atStart => exact ⟨(0),(by first | rfl | (simp;done) | (simp [*];done)),H',⟨Nat.le_refl _⟩,⟨by (with_reducible repeat (first | refine blk_drewN ?_ _ | refine blk_drew ?_ | refine blk_alloc ?_ _));exact BK292.out⟩,⟨by repeat (first | (with_reducible first | exact HB.out | apply below_alloc | apply pw_below_drewN | apply below_drew1 | refine below_set ?_ GE292.out) | exact HB.out)⟩⟩
 case round =>
  clear H'
  try clear p2
  obtain ⟨x5_1,rfl,HA,HK1,BK292,HB⟩:=hrel
  cases gk with
  | zero => exact absurd HA.out (by simp [thwartref13_has.l0])
  | succ k1 =>
   have H:=HA.out
   clear HA
   simp only [thwartref13_has.l0] at H
   by_cases c4 : x5_1 < (l0_1.length : Int)
   ·rw [if_pos c4] at H
    have c4b0 : decide (x5_1 < (l0_1.length : Int)) = true:=decide_eq_true c4
    clear c4
    by_cases c5 : 0 ≤ x5_1
    ·rw [if_pos c5] at H
     have c5b0 : decide (0 ≤ x5_1) = true:=decide_eq_true c5
     clear c5
     by_cases c6 : ((rd_T65 l0_1 x5_1).f0) = a1
     ·rw [if_pos c6] at H
      have c6b0 : (((rd_T65 l0_1 x5_1).f0) == a1) = true:=beq_iff_eq.mpr c6
      have c6b1 : (((rd_T65 l0_1 x5_1).f0) != a1) = false:=bne_eq_false_iff_eq.mpr c6
      clear c6
      obtain rfl:=Option.some.inj H
      have hcz7_0 : wr.cell? ⟨gb292,0,none⟩ = some (.int .i64 a0_0):=(blk_cell BK292.out 0).trans rfl
      have hcz7_1 : wr.cell? ⟨gb292,1,none⟩ = some (.slice A0_1 l0_1.length c0_1):=(blk_cell BK292.out 1).trans rfl
      have hfz7_0:=blk_frozen BK292.out 0
      have hfz7_1:=blk_frozen BK292.out 1
      have p293 : 0 ≤ (x5_1 : Int):=of_decide_eq_true (by first | (with_reducible assumption) | assumption)
      have q293 : x5_1 < (l0_1.length : Int):=of_decide_eq_true (by first | (with_reducible assumption) | assumption)
      obtain ⟨ad293,e293,hx293_0,hx293_1,hx293_2⟩:=at_T65 HR0_1.out x5_1 p293 q293
      cases e293
      replace hx293_0:=(HB.out.cell (World.block_lt_of_cell? w _ hx293_0)).trans hx293_0
      replace hx293_1:=(HB.out.cell (World.block_lt_of_cell? w _ hx293_1)).trans hx293_1
      replace hx293_2:=(HB.out.cell (World.block_lt_of_cell? w _ hx293_2)).trans hx293_2
      replace p293:=eq_true p293
      replace q293:=eq_true q293
      go_wp2
      go_ret
      exact ⟨by first | rfl | (simp [errW_none,errW_some] <;> rfl) | (simp [*,errW_none,errW_some] <;> rfl) | (simp [errW_none,errW_some];exact isEmpty_bne _),by repeat (first | (with_reducible first | exact HB.out | apply below_alloc | apply pw_below_drewN | apply below_drew1 | refine below_set ?_ GE292.out) | exact HB.out)⟩
     ·rw [if_neg c6] at H
      have c6b0 : (((rd_T65 l0_1 x5_1).f0) == a1) = false:=beq_eq_false_iff_ne.mpr c6
      have c6b1 : (((rd_T65 l0_1 x5_1).f0) != a1) = true:=bne_iff_ne.mpr c6
      have H' := Aside0.mk H
      clear H
      have hcz8_0 : wr.cell? ⟨gb292,0,none⟩ = some (.int .i64 a0_0):=(blk_cell BK292.out 0).trans rfl
      have hcz8_1 : wr.cell? ⟨gb292,1,none⟩ = some (.slice A0_1 l0_1.length c0_1):=(blk_cell BK292.out 1).trans rfl
      have hfz8_0:=blk_frozen BK292.out 0
      have hfz8_1:=blk_frozen BK292.out 1
      have p293 : 0 ≤ (x5_1 : Int):=of_decide_eq_true (by first | (with_reducible assumption) | assumption)
      have q293 : x5_1 < (l0_1.length : Int):=of_decide_eq_true (by first | (with_reducible assumption) | assumption)
      obtain ⟨ad293,e293,hx293_0,hx293_1,hx293_2⟩:=at_T65 HR0_1.out x5_1 p293 q293
      cases e293
      replace hx293_0:=(HB.out.cell (World.block_lt_of_cell? w _ hx293_0)).trans hx293_0
      replace hx293_1:=(HB.out.cell (World.block_lt_of_cell? w _ hx293_1)).trans hx293_1
      replace hx293_2:=(HB.out.cell (World.block_lt_of_cell? w _ hx293_2)).trans hx293_2
      replace p293:=eq_true p293
      replace q293:=eq_true q293
      go_wp2
      go_roundg k1
      case measure => have:=HK1.out;omega
      case rel => exact ⟨(wrap64 (x5_1 + 1)),(by first | rfl | (simp;done) | (simp [*];done)),H',⟨by have:=HK1.out;omega⟩,⟨by (with_reducible repeat (first | refine blk_drewN ?_ _ | refine blk_drew ?_ | refine blk_alloc ?_ _));exact BK292.out⟩,⟨by repeat (first | (with_reducible first | exact HB.out | apply below_alloc | apply pw_below_drewN | apply below_drew1 | refine below_set ?_ GE292.out) | exact HB.out)⟩⟩
    ·rw [if_neg c5] at H
     exact absurd H (by simp)
   ·rw [if_neg c4] at H
    have c4b0 : decide (x5_1 < (l0_1.length : Int)) = false:=decide_eq_false c4
    clear c4
    obtain rfl:=Option.some.inj H
    have hcz9_0 : wr.cell? ⟨gb292,0,none⟩ = some (.int .i64 a0_0):=(blk_cell BK292.out 0).trans rfl
    have hcz9_1 : wr.cell? ⟨gb292,1,none⟩ = some (.slice A0_1 l0_1.length c0_1):=(blk_cell BK292.out 1).trans rfl
    have hfz9_0:=blk_frozen BK292.out 0
    have hfz9_1:=blk_frozen BK292.out 1
    go_wp2
    go_ret
    exact ⟨by first | rfl | (simp [errW_none,errW_some] <;> rfl) | (simp [*,errW_none,errW_some] <;> rfl) | (simp [errW_none,errW_some];exact isEmpty_bne _),by repeat (first | (with_reducible first | exact HB.out | apply below_alloc | apply pw_below_drewN | apply below_drew1 | refine below_set ?_ GE292.out) | exact HB.out)⟩

-- NOT PRINTED: function 10 (thwartref13_Waste)

end Go.Proofs.YtlnbekaldemebaaGreatDoor.Print
