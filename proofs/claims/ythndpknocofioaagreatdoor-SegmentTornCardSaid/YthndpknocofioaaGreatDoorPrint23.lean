/- Written by a program of mine (give.py, over the kit's print) out of the translation: contracts of the Go functions. Lean checks it. -/
import Derived.Test.YthndpknocofioaaGreatDoorPrint0
namespace Go.Proofs.YthndpknocofioaaGreatDoor.Print
open Go.RowKit Go.Proofs.YthndpknocofioaaGreatDoorW.PrintWords Go.Proofs.YthndpknocofioaaGreatDoorW.PrintLast Go.Proofs.YthndpknocofioaaGreatDoorW.PrintMore
attribute [local go_sem] max2_int min2_int max_two min_two max_three min_three max_four min_four   -- for this text's walks alone
set_option linter.unusedVariables false
set_option linter.unusedSimpArgs false

-- NOT PRINTED: function 124 (slices_pdqsortOrdered_int)

-- NOT PRINTED: function 86 (slices_Sort_int_int)

-- NOT PRINTED: function 47 (segment_All)

-- NOT PRINTED: function 7 (thwartlaw08_awake)

/-! ### thwartref08_right: function 54 -/
def thwartref08_right.f (a0 : Int) : Option (Bool):=if a0 ≥ 0 then (some (decide (a0 ≤ 999999))) else (some false)
set_option maxHeartbeats 8000000 in
set_option maxRecDepth 100000 in
theorem thwartref08_right.calls (a0 : Int) (r : Bool) (w : World) (h : thwartref08_right.f a0 = some r) :
  Calls Tryz.prog 54 #[.int .i64 a0] w fun e w' => e = .returned (.bool r) ∧ Drawn0 w w' := by
 have H : (if a0 ≥ 0 then (some (decide (a0 ≤ 999999))) else (some false)) = some r:=h
 clear h
 by_cases c2 : a0 ≥ 0
 ·rw [if_pos c2] at H
  have c2b0 : decide (0 ≤ a0) = true:=decide_eq_true c2
  clear c2
  obtain rfl:=Option.some.inj H
  go_enter Tryz.func54,Tryz.ntmps54
  go_wp2
  go_ret
  exact ⟨by first | rfl | (simp;done) | (simp [*];done),by repeat (first | exact Drawn0.refl _ | apply Drawn0.step)⟩
 ·rw [if_neg c2] at H
  have c2b0 : decide (0 ≤ a0) = false:=decide_eq_false c2
  clear c2
  obtain rfl:=Option.some.inj H
  go_enter Tryz.func54,Tryz.ntmps54
  go_wp2
  go_ret
  exact ⟨by first | rfl | (simp;done) | (simp [*];done),by repeat (first | exact Drawn0.refl _ | apply Drawn0.step)⟩

/-! ### thwartref08_digits: function 55 -/
def thwartref08_digits.l0 : Nat → Int → ByteArray → Int → Option (ByteArray)
 | 0,_,_,_ => none
 | k + 1,x0,x3,x4 => if x4 < 6 then ((some (([(wrap64 (48 + (Int.tmod x0 10))) % 256] : List Int) : List Int)).bind fun y443 => (if (strOfNums y443).size + x3.size ≤ 9223372036854775807 then (thwartref08_digits.l0 k (wrap64 (Int.tdiv x0 10)) ((strOfNums y443) ++ x3) (wrap64 (x4 + 1))) else (none))) else (some x3)
def thwartref08_digits.f (k : Nat) (a0 : Int) : Option (ByteArray):=thwartref08_digits.l0 k a0 (⟨#[]⟩ : ByteArray) 0
theorem thwartref08_digits.mono_l : ∀ k,(∀ y0 y1 y2,LeO (thwartref08_digits.l0 k y0 y1 y2) (thwartref08_digits.l0 (k + 1) y0 y1 y2))
 | 0 => fun _ _ _ r h => by simp [thwartref08_digits.l0] at h
 | k + 1 => by
  have ih0:=thwartref08_digits.mono_l k
  ·intro y0 y1 y2
   unfold thwartref08_digits.l0
   repeat' first
   | (with_reducible exact ih0 _ _ _)
   | (with_reducible exact LeO.refl _)
   | (with_reducible exact LeO.none _)
   | (with_reducible refine LeO.ite ?_ ?_)
   | (with_reducible refine LeO.bind ?_ (fun _ => ?_))
   | exact ih0 _ _ _
   | exact LeO.none _
   | refine LeO.ite ?_ ?_
   | refine LeO.bind ?_ (fun _ => ?_)
theorem thwartref08_digits.mono : ∀ a0 k,LeO (thwartref08_digits.f k a0) (thwartref08_digits.f (k + 1) a0):=by
 intro a0 k
 have ih0:=thwartref08_digits.mono_l k
 unfold thwartref08_digits.f
 repeat' first
   | (with_reducible exact ih0 _ _ _)
   | (with_reducible exact LeO.refl _)
   | (with_reducible exact LeO.none _)
   | (with_reducible refine LeO.ite ?_ ?_)
   | (with_reducible refine LeO.bind ?_ (fun _ => ?_))
   | exact ih0 _ _ _
   | exact LeO.none _
   | refine LeO.ite ?_ ?_
   | refine LeO.bind ?_ (fun _ => ?_)
set_option maxHeartbeats 8000000 in
set_option maxRecDepth 100000 in
theorem thwartref08_digits.calls (k : Nat) (a0 : Int) (r : ByteArray) (w : World) (h : thwartref08_digits.f k a0 = some r) :
  Calls Tryz.prog 55 #[.int .i64 a0] w fun e w' => e = .returned (.string r) ∧ Below w.heap.size w w' := by
 have HB:=Aside0.mk (Below.refl w.heap.size w)
 have H : (thwartref08_digits.l0 k a0 (⟨#[]⟩ : ByteArray) 0) = some r:=h
 clear h
 have H' := Aside0.mk H
 clear H
 go_enter Tryz.func55,Tryz.ntmps55
 go_wp2
 go_loopg [0,3,4] k (fun kq v0 v3 v4 w' => ∃ (x0_1 : Int) (x3_1 : ByteArray) (x4_1 : Int),v0 = .int .i64 x0_1 ∧ v3 = .string x3_1 ∧ v4 = .int .i64 x4_1 ∧ Aside0 (thwartref08_digits.l0 kq x0_1 x3_1 x4_1 = some r) ∧ Aside0 (kq ≤ k) ∧ Aside0 (Below w.heap.size w w'))
 case atStart => exact ⟨(a0),((⟨#[]⟩ : ByteArray)),(0),(by first | rfl | (simp;done) | (simp [*];done)),(by first | rfl | (simp;done) | (simp [*];done)),(by first | rfl | (simp;done) | (simp [*];done)),H',⟨Nat.le_refl _⟩,⟨by repeat (first | (with_reducible first | exact HB.out | apply below_alloc | apply pw_below_drewN | apply below_drew1) | exact HB.out)⟩⟩
 case round =>
  clear H'
  obtain ⟨x0_1,x3_1,x4_1,rfl,rfl,rfl,HA,HK1,HB⟩:=hrel
  cases gk with
  | zero => exact absurd HA.out (by simp [thwartref08_digits.l0])
  | succ k1 =>
   have H:=HA.out
   clear HA
   simp only [thwartref08_digits.l0] at H
   by_cases c2 : x4_1 < 6
   ·rw [if_pos c2] at H
    have c2b0 : decide (x4_1 < 6) = true:=decide_eq_true c2
    clear c2
    obtain ⟨y443,hy443⟩ : ∃ y_ : List Int,y_ = (([(wrap64 (48 + (Int.tmod x0_1 10))) % 256] : List Int)):=⟨_,rfl⟩
    replace H : (if (strOfNums y443).size + x3_1.size ≤ 9223372036854775807 then (thwartref08_digits.l0 k1 (wrap64 (Int.tdiv x0_1 10)) ((strOfNums y443) ++ x3_1) (wrap64 (x4_1 + 1))) else (none)) = some r:=by first | (rw [hy443];with_reducible exact H) | (have H2_:=(Option.bind_some _ _).symm.trans H;rw [hy443];with_reducible exact H2_) | (have H2_:=(Option.bind_some _ _).symm.trans H;with_reducible exact H2_) | with_reducible exact H | (rw [hy443];exact H) | exact H
    have Ny443:=Aside0.mk hy443
    clear hy443
    by_cases c3 : (strOfNums y443).size + x3_1.size ≤ 9223372036854775807
    ·rw [if_pos c3] at H
     have c3b0:=eq_true c3
     have c3b1 : decide ((strOfNums y443).size + x3_1.size ≤ 9223372036854775807) = true:=decide_eq_true c3
     try have c3b2 : (9223372036854775807 < (strOfNums y443).size + x3_1.size) = False:=eq_false (Nat.not_lt.2 c3)
     have H' := Aside0.mk H
     clear H
     go_wp2_with (first | ((with_reducible refine gate_dst (N:=13) rfl ?_);refine Kd.R_lit (Kd.int .u8) _ 5 ?hg (N:=13) ?hd (xs:=([(wrap64 (48 + (Int.tmod x0_1 10))) % 256] : List Int)) (inner:=[.int .u8 ((wrap64 (48 + (Int.tmod x0_1 10))) % 256)]) (ok:=fun _ => True) (okp:=fun _ => True) ?hr ?hp (fun _ hk => hk) trivial (Below.refl _ _) (Nat.le_refl _) (by simp) ?_;(case hd => rfl);(case hg => rfl);(case hr => first | (go_simp;done) | (go_simp;rfl));(case hp => exact (Reps.one (show Kd.M (Kd.int .u8) _ _ _ ((wrap64 (48 + (Int.tmod x0_1 10))) % 256) [.int .u8 ((wrap64 (48 + (Int.tmod x0_1 10))) % 256)] from rfl) (Reps.none _ _)));intro v444 w4 ho5 hb hg_ hnew_;clear hg_ hnew_;(first | rw [← Ny443.out] at ho5 | (simp only [Int.reduceToNat] at ho5;rw [← Ny443.out] at ho5));have n0_:=Aside0.mk (Kd.R_lower ho5 (below_size (by repeat (first | (with_reducible first | exact HB.out | apply below_alloc | apply pw_below_drewN | apply below_drew1) | exact HB.out))));have n1_:=Aside0.mk (below_step (by repeat (first | (with_reducible first | exact HB.out | apply below_alloc | apply pw_below_drewN | apply below_drew1) | exact HB.out)) hb);clear HB;have HO445:=n0_;have HB:=n1_;clear n0_ n1_;clear hb ho5;have hcv6:=own_string (P:=Tryz.prog) Tryz.underlying129 Tryz.underlying5 Tryz.underlying9 (Kd.own_of_R HO445.out)))
     go_roundg k1
     case measure => have:=HK1.out;omega
     case rel => exact ⟨(wrap64 (Int.tdiv x0_1 10)),((strOfNums y443) ++ x3_1),(wrap64 (x4_1 + 1)),(by first | rfl | (simp;done) | (simp [*];done)),(by first | rfl | (simp;done) | (simp [*];done)),(by first | rfl | (simp;done) | (simp [*];done)),H',⟨by have:=HK1.out;omega⟩,⟨by repeat (first | (with_reducible first | exact HB.out | apply below_alloc | apply pw_below_drewN | apply below_drew1) | exact HB.out)⟩⟩
    ·rw [if_neg c3] at H
     exact absurd H (by simp)
   ·rw [if_neg c2] at H
    have c2b0 : decide (x4_1 < 6) = false:=decide_eq_false c2
    clear c2
    obtain rfl:=Option.some.inj H
    go_wp2
    go_ret
    exact ⟨by first | rfl | (simp [errW_none,errW_some] <;> rfl) | (simp [*,errW_none,errW_some] <;> rfl) | (simp [errW_none,errW_some];exact isEmpty_bne _),by repeat (first | (with_reducible first | exact HB.out | apply below_alloc | apply pw_below_drewN | apply below_drew1) | exact HB.out)⟩

/-! ### thwartref08_Name: function 11 -/
def thwartref08_Name.f (k : Nat) (a0 : Int) : Option (ByteArray):=(thwartref08_right.f a0).bind fun t446 => (if t446 = true then ((thwartref08_digits.f k a0).bind fun t447 => (if 1 + t447.size ≤ 9223372036854775807 then (some ((⟨#[115]⟩ : ByteArray) ++ t447)) else (none))) else (some (⟨#[]⟩ : ByteArray)))
theorem thwartref08_Name.mono : ∀ a0 k,LeO (thwartref08_Name.f k a0) (thwartref08_Name.f (k + 1) a0):=by
 intro a0 k
 unfold thwartref08_Name.f
 repeat' first
   | (with_reducible exact thwartref08_digits.mono _ _)
   | (with_reducible exact LeO.refl _)
   | (with_reducible exact LeO.none _)
   | (with_reducible refine LeO.ite ?_ ?_)
   | (with_reducible refine LeO.bind ?_ (fun _ => ?_))
   | exact thwartref08_digits.mono _ _
   | exact LeO.none _
   | refine LeO.ite ?_ ?_
   | refine LeO.bind ?_ (fun _ => ?_)
set_option maxHeartbeats 8000000 in
set_option maxRecDepth 100000 in
theorem thwartref08_Name.calls (k : Nat) (a0 : Int) (r : ByteArray) (w : World) (h : thwartref08_Name.f k a0 = some r) :
  Calls Tryz.prog 11 #[.int .i64 a0] w fun e w' => e = .returned (.string r) ∧ Below w.heap.size w w' := by
 have HB:=Aside0.mk (Below.refl w.heap.size w)
 have H : ((thwartref08_right.f a0).bind fun t446 => (if t446 = true then ((thwartref08_digits.f k a0).bind fun t447 => (if 1 + t447.size ≤ 9223372036854775807 then (some ((⟨#[115]⟩ : ByteArray) ++ t447)) else (none))) else (some (⟨#[]⟩ : ByteArray)))) = some r:=h
 clear h
 replace H:=Option.bind_eq_some_iff.mp H
 obtain ⟨t446,A20,H⟩:=H
 replace H : (if t446 = true then ((thwartref08_digits.f k a0).bind fun t447 => (if 1 + t447.size ≤ 9223372036854775807 then (some ((⟨#[115]⟩ : ByteArray) ++ t447)) else (none))) else (some (⟨#[]⟩ : ByteArray))) = some r:=H
 have A2:=Aside0.mk A20
 clear A20
 by_cases c3 : t446 = true
 ·subst c3
  have H1 : ((thwartref08_digits.f k a0).bind fun t447 => (if 1 + t447.size ≤ 9223372036854775807 then (some ((⟨#[115]⟩ : ByteArray) ++ t447)) else (none))) = some r:=by rw [if_pos rfl] at H;exact H
  clear H
  have H:=H1
  clear H1
  replace H:=Option.bind_eq_some_iff.mp H
  obtain ⟨t447,A40,H⟩:=H
  replace H : (if 1 + t447.size ≤ 9223372036854775807 then (some ((⟨#[115]⟩ : ByteArray) ++ t447)) else (none)) = some r:=H
  have A4:=Aside0.mk A40
  clear A40
  by_cases c5 : 1 + t447.size ≤ 9223372036854775807
  ·rw [if_pos c5] at H
   have c5b0:=eq_true c5
   have c5b1 : decide (1 + t447.size ≤ 9223372036854775807) = true:=decide_eq_true c5
   try have c5b2 : (9223372036854775807 < 1 + t447.size) = False:=eq_false (Nat.not_lt.2 c5)
   obtain rfl:=Option.some.inj H
   go_enter Tryz.func11,Tryz.ntmps11
   go_wp2_with (first | ((with_reducible refine gate_callee (f:=54) rfl ?_);refine goesL_ (some 4) rfl rfl Tryz.func54 (by kernel_rfl) rfl #[.int .i64 a0] rfl (by (try simp only [List.map_toArray,List.map_cons,List.map_nil]);first | done | rfl | (simp only [List.length_drop,List.length_take];rfl)) ?_;(with_reducible refine (thwartref08_right.calls a0 true _ A2.out).mono ?_);rintro e w' ⟨rfl,⟨nd,rfl⟩⟩;refine ⟨_,rfl,?_⟩) | ((with_reducible refine gate_callee (f:=55) rfl ?_);refine goesL_ (some 7) rfl rfl Tryz.func55 (by kernel_rfl) rfl #[.int .i64 a0] rfl (by (try simp only [List.map_toArray,List.map_cons,List.map_nil]);first | done | rfl | (simp only [List.length_drop,List.length_take];rfl)) ?_;(with_reducible refine (thwartref08_digits.calls k a0 t447 _ A4.out).mono ?_);rintro e w6 ⟨rfl,hb⟩;refine ⟨_,rfl,?_⟩;have n0_:=Aside0.mk (below_step (by repeat (first | (with_reducible first | exact HB.out | apply below_alloc | apply pw_below_drewN | apply below_drew1) | exact HB.out)) hb);clear HB;have HB:=n0_;clear n0_;(try clear hb);(try clear hb2);(try clear hk);(try clear hi)))
   go_ret
   exact ⟨by first | rfl | (simp [errW_none,errW_some] <;> rfl) | (simp [*,errW_none,errW_some] <;> rfl) | (simp [errW_none,errW_some];exact isEmpty_bne _),by repeat (first | (with_reducible first | exact HB.out | apply below_alloc | apply pw_below_drewN | apply below_drew1) | exact HB.out)⟩
  ·rw [if_neg c5] at H
   exact absurd H (by simp)
 ·replace c3:=Bool.eq_false_iff.mpr c3
  subst c3
  have H1 : (some (⟨#[]⟩ : ByteArray)) = some r:=by rw [if_neg (show ¬ (false = true) by decide)] at H;exact H
  clear H
  have H:=H1
  clear H1
  obtain rfl:=Option.some.inj H
  go_enter Tryz.func11,Tryz.ntmps11
  go_wp2_with (first | ((with_reducible refine gate_callee (f:=54) rfl ?_);refine goesL_ (some 4) rfl rfl Tryz.func54 (by kernel_rfl) rfl #[.int .i64 a0] rfl (by (try simp only [List.map_toArray,List.map_cons,List.map_nil]);first | done | rfl | (simp only [List.length_drop,List.length_take];rfl)) ?_;(with_reducible refine (thwartref08_right.calls a0 false _ A2.out).mono ?_);rintro e w' ⟨rfl,⟨nd,rfl⟩⟩;refine ⟨_,rfl,?_⟩))
  go_ret
  exact ⟨by first | rfl | (simp [errW_none,errW_some] <;> rfl) | (simp [*,errW_none,errW_some] <;> rfl) | (simp [errW_none,errW_some];exact isEmpty_bne _),by repeat (first | (with_reducible first | exact HB.out | apply below_alloc | apply pw_below_drewN | apply below_drew1) | exact HB.out)⟩

/-! ### thwartref08_Number: function 9 -/
def thwartref08_Number.l0 : Nat → ByteArray → Int → Int → Option (Int × Bool)
 | 0,_,_,_ => none
 | k + 1,x0,x4,x5 => if x5 < (x0.size : Int) then (if x5 < 7 then (if 0 ≤ x5 then (thwartref08_Number.l0 k x0 (wrap64 ((wrap64 ((wrap64 (10 * x4)) + (wrap64 (bt x0 x5)))) - 48)) (wrap64 (x5 + 1))) else (none)) else (if x0.toList = ([] : List UInt8) then (some (0,false)) else ((thwartref08_Name.f k x4).bind fun t448 => (if t448.toList = x0.toList then (some (x4,true)) else (some (0,false)))))) else (if x0.toList = ([] : List UInt8) then (some (0,false)) else ((thwartref08_Name.f k x4).bind fun t449 => (if t449.toList = x0.toList then (some (x4,true)) else (some (0,false)))))
def thwartref08_Number.f (k : Nat) (a0 : ByteArray) : Option (Int × Bool):=thwartref08_Number.l0 k a0 0 1
theorem thwartref08_Number.mono_l : ∀ k,(∀ y0 y1 y2,LeO (thwartref08_Number.l0 k y0 y1 y2) (thwartref08_Number.l0 (k + 1) y0 y1 y2))
 | 0 => fun _ _ _ r h => by simp [thwartref08_Number.l0] at h
 | k + 1 => by
  have ih0:=thwartref08_Number.mono_l k
  ·intro y0 y1 y2
   unfold thwartref08_Number.l0
   repeat' first
   | (with_reducible exact ih0 _ _ _)
   | (with_reducible exact thwartref08_Name.mono _ _)
   | (with_reducible exact LeO.refl _)
   | (with_reducible exact LeO.none _)
   | (with_reducible refine LeO.ite ?_ ?_)
   | (with_reducible refine LeO.bind ?_ (fun _ => ?_))
   | exact ih0 _ _ _
   | exact thwartref08_Name.mono _ _
   | exact LeO.none _
   | refine LeO.ite ?_ ?_
   | refine LeO.bind ?_ (fun _ => ?_)
theorem thwartref08_Number.mono : ∀ a0 k,LeO (thwartref08_Number.f k a0) (thwartref08_Number.f (k + 1) a0):=by
 intro a0 k
 have ih0:=thwartref08_Number.mono_l k
 unfold thwartref08_Number.f
 repeat' first
   | (with_reducible exact ih0 _ _ _)
   | (with_reducible exact thwartref08_Name.mono _ _)
   | (with_reducible exact LeO.refl _)
   | (with_reducible exact LeO.none _)
   | (with_reducible refine LeO.ite ?_ ?_)
   | (with_reducible refine LeO.bind ?_ (fun _ => ?_))
   | exact ih0 _ _ _
   | exact thwartref08_Name.mono _ _
   | exact LeO.none _
   | refine LeO.ite ?_ ?_
   | refine LeO.bind ?_ (fun _ => ?_)
set_option maxHeartbeats 8000000 in
set_option maxRecDepth 100000 in
theorem thwartref08_Number.calls (k : Nat) (a0 : ByteArray) (r1 : Int) (r2 : Bool) (w : World) (h : thwartref08_Number.f k a0 = some (r1,r2)) :
  Calls Tryz.prog 9 #[.string a0] w fun e w' => e = .returned (.tuple #[.int .i64 r1,.bool r2]) ∧ Below w.heap.size w w' := by
 have HB:=Aside0.mk (Below.refl w.heap.size w)
 have H : (thwartref08_Number.l0 k a0 0 1) = some (r1,r2):=h
 clear h
 have H' := Aside0.mk H
 clear H
 go_enter Tryz.func9,Tryz.ntmps9
 go_wp2
 go_loopg [4,5] k (fun kq v4 v5 w' => ∃ (x4_1 : Int) (x5_1 : Int),v4 = .int .i64 x4_1 ∧ v5 = .int .i64 x5_1 ∧ Aside0 (thwartref08_Number.l0 kq a0 x4_1 x5_1 = some (r1,r2)) ∧ Aside0 (kq ≤ k) ∧ Aside0 (Below w.heap.size w w'))
 case atStart => exact ⟨(0),(1),(by first | rfl | (simp;done) | (simp [*];done)),(by first | rfl | (simp;done) | (simp [*];done)),H',⟨Nat.le_refl _⟩,⟨by repeat (first | (with_reducible first | exact HB.out | apply below_alloc | apply pw_below_drewN | apply below_drew1) | exact HB.out)⟩⟩
 case round =>
  clear H'
  obtain ⟨x4_1,x5_1,rfl,rfl,HA,HK1,HB⟩:=hrel
  cases gk with
  | zero => exact absurd HA.out (by simp [thwartref08_Number.l0])
  | succ k1 =>
   have H:=HA.out
   clear HA
   simp only [thwartref08_Number.l0] at H
   by_cases c2 : x5_1 < (a0.size : Int)
   ·rw [if_pos c2] at H
    have c2b0 : decide (x5_1 < (a0.size : Int)) = true:=decide_eq_true c2
    clear c2
    by_cases c3 : x5_1 < 7
    ·rw [if_pos c3] at H
     have c3b0 : decide (x5_1 < 7) = true:=decide_eq_true c3
     clear c3
     by_cases c4 : 0 ≤ x5_1
     ·rw [if_pos c4] at H
      have c4b0 : decide (0 ≤ x5_1) = true:=decide_eq_true c4
      clear c4
      have H' := Aside0.mk H
      clear H
      have p5 : 0 ≤ (x5_1 : Int):=of_decide_eq_true (by first | (with_reducible assumption) | assumption)
      have q5 : x5_1 < (a0.size : Int):=of_decide_eq_true (by first | (with_reducible assumption) | assumption)
      have hx5:=bt_at a0 x5_1
      replace p5:=eq_true p5
      replace q5:=eq_true q5
      go_wp2
      go_roundg k1
      case measure => have:=HK1.out;omega
      case rel => exact ⟨(wrap64 ((wrap64 ((wrap64 (10 * x4_1)) + (wrap64 (bt a0 x5_1)))) - 48)),(wrap64 (x5_1 + 1)),(by first | rfl | (simp;done) | (simp [*];done)),(by first | rfl | (simp;done) | (simp [*];done)),H',⟨by have:=HK1.out;omega⟩,⟨by repeat (first | (with_reducible first | exact HB.out | apply below_alloc | apply pw_below_drewN | apply below_drew1) | exact HB.out)⟩⟩
     ·rw [if_neg c4] at H
      exact absurd H (by simp)
    ·rw [if_neg c3] at H
     have c3b0 : decide (x5_1 < 7) = false:=decide_eq_false c3
     clear c3
     by_cases c6 : a0.toList = ([] : List UInt8)
     ·rw [if_pos c6] at H
      have c6b0 : (a0.toList == ([] : List UInt8)) = true:=beq_iff_eq.mpr c6
      have c6b1 : (a0.toList != ([] : List UInt8)) = false:=bne_eq_false_iff_eq.mpr c6
      clear c6
      simp only [Option.some.injEq,Prod.mk.injEq] at H
      obtain ⟨rfl,rfl⟩:=H
      go_wp2
      go_ret2
      exact ⟨by first | rfl | (simp [errW_none,errW_some] <;> rfl) | (simp [*,errW_none,errW_some] <;> rfl) | (simp [errW_none,errW_some];exact isEmpty_bne _),by repeat (first | (with_reducible first | exact HB.out | apply below_alloc | apply pw_below_drewN | apply below_drew1) | exact HB.out)⟩
     ·rw [if_neg c6] at H
      have c6b0 : (a0.toList == ([] : List UInt8)) = false:=beq_eq_false_iff_ne.mpr c6
      have c6b1 : (a0.toList != ([] : List UInt8)) = true:=bne_iff_ne.mpr c6
      replace H:=Option.bind_eq_some_iff.mp H
      obtain ⟨t448,A70,H⟩:=H
      replace H : (if t448.toList = a0.toList then (some (x4_1,true)) else (some (0,false))) = some (r1,r2):=H
      have A7:=Aside0.mk A70
      clear A70
      by_cases c8 : t448.toList = a0.toList
      ·rw [if_pos c8] at H
       have c8b0 : (t448.toList == a0.toList) = true:=beq_iff_eq.mpr c8
       have c8b1 : (t448.toList != a0.toList) = false:=bne_eq_false_iff_eq.mpr c8
       clear c8
       simp only [Option.some.injEq,Prod.mk.injEq] at H
       obtain ⟨rfl,rfl⟩:=H
       go_wp2_with (first | (go_at_call 11;(with_reducible refine (thwartref08_Name.calls k1 x4_1 t448 _ A7.out).mono ?_);rintro e w9 ⟨rfl,hb⟩;have n0_:=Aside0.mk (below_step (by repeat (first | (with_reducible first | exact HB.out | apply below_alloc | apply pw_below_drewN | apply below_drew1) | exact HB.out)) hb);clear HB;have HB:=n0_;clear n0_;(try clear hb);(try clear hb2);(try clear hk);(try clear hi)))
       go_ret2
       exact ⟨by first | rfl | (simp [errW_none,errW_some] <;> rfl) | (simp [*,errW_none,errW_some] <;> rfl) | (simp [errW_none,errW_some];exact isEmpty_bne _),by repeat (first | (with_reducible first | exact HB.out | apply below_alloc | apply pw_below_drewN | apply below_drew1) | exact HB.out)⟩
      ·rw [if_neg c8] at H
       have c8b0 : (t448.toList == a0.toList) = false:=beq_eq_false_iff_ne.mpr c8
       have c8b1 : (t448.toList != a0.toList) = true:=bne_iff_ne.mpr c8
       simp only [Option.some.injEq,Prod.mk.injEq] at H
       obtain ⟨rfl,rfl⟩:=H
       go_wp2_with (first | (go_at_call 11;(with_reducible refine (thwartref08_Name.calls k1 x4_1 t448 _ A7.out).mono ?_);rintro e w10 ⟨rfl,hb⟩;have n0_:=Aside0.mk (below_step (by repeat (first | (with_reducible first | exact HB.out | apply below_alloc | apply pw_below_drewN | apply below_drew1) | exact HB.out)) hb);clear HB;have HB:=n0_;clear n0_;(try clear hb);(try clear hb2);(try clear hk);(try clear hi)))
       go_ret2
       exact ⟨by first | rfl | (simp [errW_none,errW_some] <;> rfl) | (simp [*,errW_none,errW_some] <;> rfl) | (simp [errW_none,errW_some];exact isEmpty_bne _),by repeat (first | (with_reducible first | exact HB.out | apply below_alloc | apply pw_below_drewN | apply below_drew1) | exact HB.out)⟩
   ·rw [if_neg c2] at H
    have c2b0 : decide (x5_1 < (a0.size : Int)) = false:=decide_eq_false c2
    clear c2
    by_cases c11 : a0.toList = ([] : List UInt8)
    ·rw [if_pos c11] at H
     have c11b0 : (a0.toList == ([] : List UInt8)) = true:=beq_iff_eq.mpr c11
     have c11b1 : (a0.toList != ([] : List UInt8)) = false:=bne_eq_false_iff_eq.mpr c11
     clear c11
     simp only [Option.some.injEq,Prod.mk.injEq] at H
     obtain ⟨rfl,rfl⟩:=H
     go_wp2
     go_ret2
     exact ⟨by first | rfl | (simp [errW_none,errW_some] <;> rfl) | (simp [*,errW_none,errW_some] <;> rfl) | (simp [errW_none,errW_some];exact isEmpty_bne _),by repeat (first | (with_reducible first | exact HB.out | apply below_alloc | apply pw_below_drewN | apply below_drew1) | exact HB.out)⟩
    ·rw [if_neg c11] at H
     have c11b0 : (a0.toList == ([] : List UInt8)) = false:=beq_eq_false_iff_ne.mpr c11
     have c11b1 : (a0.toList != ([] : List UInt8)) = true:=bne_iff_ne.mpr c11
     replace H:=Option.bind_eq_some_iff.mp H
     obtain ⟨t449,A120,H⟩:=H
     replace H : (if t449.toList = a0.toList then (some (x4_1,true)) else (some (0,false))) = some (r1,r2):=H
     have A12:=Aside0.mk A120
     clear A120
     by_cases c13 : t449.toList = a0.toList
     ·rw [if_pos c13] at H
      have c13b0 : (t449.toList == a0.toList) = true:=beq_iff_eq.mpr c13
      have c13b1 : (t449.toList != a0.toList) = false:=bne_eq_false_iff_eq.mpr c13
      clear c13
      simp only [Option.some.injEq,Prod.mk.injEq] at H
      obtain ⟨rfl,rfl⟩:=H
      go_wp2_with (first | (go_at_call 11;(with_reducible refine (thwartref08_Name.calls k1 x4_1 t449 _ A12.out).mono ?_);rintro e w14 ⟨rfl,hb⟩;have n0_:=Aside0.mk (below_step (by repeat (first | (with_reducible first | exact HB.out | apply below_alloc | apply pw_below_drewN | apply below_drew1) | exact HB.out)) hb);clear HB;have HB:=n0_;clear n0_;(try clear hb);(try clear hb2);(try clear hk);(try clear hi)))
      go_ret2
      exact ⟨by first | rfl | (simp [errW_none,errW_some] <;> rfl) | (simp [*,errW_none,errW_some] <;> rfl) | (simp [errW_none,errW_some];exact isEmpty_bne _),by repeat (first | (with_reducible first | exact HB.out | apply below_alloc | apply pw_below_drewN | apply below_drew1) | exact HB.out)⟩
     ·rw [if_neg c13] at H
      have c13b0 : (t449.toList == a0.toList) = false:=beq_eq_false_iff_ne.mpr c13
      have c13b1 : (t449.toList != a0.toList) = true:=bne_iff_ne.mpr c13
      simp only [Option.some.injEq,Prod.mk.injEq] at H
      obtain ⟨rfl,rfl⟩:=H
      go_wp2_with (first | (go_at_call 11;(with_reducible refine (thwartref08_Name.calls k1 x4_1 t449 _ A12.out).mono ?_);rintro e w15 ⟨rfl,hb⟩;have n0_:=Aside0.mk (below_step (by repeat (first | (with_reducible first | exact HB.out | apply below_alloc | apply pw_below_drewN | apply below_drew1) | exact HB.out)) hb);clear HB;have HB:=n0_;clear n0_;(try clear hb);(try clear hb2);(try clear hk);(try clear hi)))
      go_ret2
      exact ⟨by first | rfl | (simp [errW_none,errW_some] <;> rfl) | (simp [*,errW_none,errW_some] <;> rfl) | (simp [errW_none,errW_some];exact isEmpty_bne _),by repeat (first | (with_reducible first | exact HB.out | apply below_alloc | apply pw_below_drewN | apply below_drew1) | exact HB.out)⟩

/-! ### thwartref08_Hints: function 13 -/
def thwartref08_Hints.f (k : Nat) (a0 : Int) : Option (ByteArray):=(thwartref08_right.f a0).bind fun t450 => (if t450 = true then ((thwartref08_digits.f k a0).bind fun t451 => (if 1 + t451.size ≤ 9223372036854775807 then (some ((⟨#[104]⟩ : ByteArray) ++ t451)) else (none))) else (some (⟨#[]⟩ : ByteArray)))
theorem thwartref08_Hints.mono : ∀ a0 k,LeO (thwartref08_Hints.f k a0) (thwartref08_Hints.f (k + 1) a0):=by
 intro a0 k
 unfold thwartref08_Hints.f
 repeat' first
   | (with_reducible exact thwartref08_digits.mono _ _)
   | (with_reducible exact LeO.refl _)
   | (with_reducible exact LeO.none _)
   | (with_reducible refine LeO.ite ?_ ?_)
   | (with_reducible refine LeO.bind ?_ (fun _ => ?_))
   | exact thwartref08_digits.mono _ _
   | exact LeO.none _
   | refine LeO.ite ?_ ?_
   | refine LeO.bind ?_ (fun _ => ?_)
set_option maxHeartbeats 8000000 in
set_option maxRecDepth 100000 in
theorem thwartref08_Hints.calls (k : Nat) (a0 : Int) (r : ByteArray) (w : World) (h : thwartref08_Hints.f k a0 = some r) :
  Calls Tryz.prog 13 #[.int .i64 a0] w fun e w' => e = .returned (.string r) ∧ Below w.heap.size w w' := by
 have HB:=Aside0.mk (Below.refl w.heap.size w)
 have H : ((thwartref08_right.f a0).bind fun t450 => (if t450 = true then ((thwartref08_digits.f k a0).bind fun t451 => (if 1 + t451.size ≤ 9223372036854775807 then (some ((⟨#[104]⟩ : ByteArray) ++ t451)) else (none))) else (some (⟨#[]⟩ : ByteArray)))) = some r:=h
 clear h
 replace H:=Option.bind_eq_some_iff.mp H
 obtain ⟨t450,A20,H⟩:=H
 replace H : (if t450 = true then ((thwartref08_digits.f k a0).bind fun t451 => (if 1 + t451.size ≤ 9223372036854775807 then (some ((⟨#[104]⟩ : ByteArray) ++ t451)) else (none))) else (some (⟨#[]⟩ : ByteArray))) = some r:=H
 have A2:=Aside0.mk A20
 clear A20
 by_cases c3 : t450 = true
 ·subst c3
  have H1 : ((thwartref08_digits.f k a0).bind fun t451 => (if 1 + t451.size ≤ 9223372036854775807 then (some ((⟨#[104]⟩ : ByteArray) ++ t451)) else (none))) = some r:=by rw [if_pos rfl] at H;exact H
  clear H
  have H:=H1
  clear H1
  replace H:=Option.bind_eq_some_iff.mp H
  obtain ⟨t451,A40,H⟩:=H
  replace H : (if 1 + t451.size ≤ 9223372036854775807 then (some ((⟨#[104]⟩ : ByteArray) ++ t451)) else (none)) = some r:=H
  have A4:=Aside0.mk A40
  clear A40
  by_cases c5 : 1 + t451.size ≤ 9223372036854775807
  ·rw [if_pos c5] at H
   have c5b0:=eq_true c5
   have c5b1 : decide (1 + t451.size ≤ 9223372036854775807) = true:=decide_eq_true c5
   try have c5b2 : (9223372036854775807 < 1 + t451.size) = False:=eq_false (Nat.not_lt.2 c5)
   obtain rfl:=Option.some.inj H
   go_enter Tryz.func13,Tryz.ntmps13
   go_wp2_with (first | ((with_reducible refine gate_callee (f:=54) rfl ?_);refine goesL_ (some 4) rfl rfl Tryz.func54 (by kernel_rfl) rfl #[.int .i64 a0] rfl (by (try simp only [List.map_toArray,List.map_cons,List.map_nil]);first | done | rfl | (simp only [List.length_drop,List.length_take];rfl)) ?_;(with_reducible refine (thwartref08_right.calls a0 true _ A2.out).mono ?_);rintro e w' ⟨rfl,⟨nd,rfl⟩⟩;refine ⟨_,rfl,?_⟩) | ((with_reducible refine gate_callee (f:=55) rfl ?_);refine goesL_ (some 7) rfl rfl Tryz.func55 (by kernel_rfl) rfl #[.int .i64 a0] rfl (by (try simp only [List.map_toArray,List.map_cons,List.map_nil]);first | done | rfl | (simp only [List.length_drop,List.length_take];rfl)) ?_;(with_reducible refine (thwartref08_digits.calls k a0 t451 _ A4.out).mono ?_);rintro e w6 ⟨rfl,hb⟩;refine ⟨_,rfl,?_⟩;have n0_:=Aside0.mk (below_step (by repeat (first | (with_reducible first | exact HB.out | apply below_alloc | apply pw_below_drewN | apply below_drew1) | exact HB.out)) hb);clear HB;have HB:=n0_;clear n0_;(try clear hb);(try clear hb2);(try clear hk);(try clear hi)))
   go_ret
   exact ⟨by first | rfl | (simp [errW_none,errW_some] <;> rfl) | (simp [*,errW_none,errW_some] <;> rfl) | (simp [errW_none,errW_some];exact isEmpty_bne _),by repeat (first | (with_reducible first | exact HB.out | apply below_alloc | apply pw_below_drewN | apply below_drew1) | exact HB.out)⟩
  ·rw [if_neg c5] at H
   exact absurd H (by simp)
 ·replace c3:=Bool.eq_false_iff.mpr c3
  subst c3
  have H1 : (some (⟨#[]⟩ : ByteArray)) = some r:=by rw [if_neg (show ¬ (false = true) by decide)] at H;exact H
  clear H
  have H:=H1
  clear H1
  obtain rfl:=Option.some.inj H
  go_enter Tryz.func13,Tryz.ntmps13
  go_wp2_with (first | ((with_reducible refine gate_callee (f:=54) rfl ?_);refine goesL_ (some 4) rfl rfl Tryz.func54 (by kernel_rfl) rfl #[.int .i64 a0] rfl (by (try simp only [List.map_toArray,List.map_cons,List.map_nil]);first | done | rfl | (simp only [List.length_drop,List.length_take];rfl)) ?_;(with_reducible refine (thwartref08_right.calls a0 false _ A2.out).mono ?_);rintro e w' ⟨rfl,⟨nd,rfl⟩⟩;refine ⟨_,rfl,?_⟩))
  go_ret
  exact ⟨by first | rfl | (simp [errW_none,errW_some] <;> rfl) | (simp [*,errW_none,errW_some] <;> rfl) | (simp [errW_none,errW_some];exact isEmpty_bne _),by repeat (first | (with_reducible first | exact HB.out | apply below_alloc | apply pw_below_drewN | apply below_drew1) | exact HB.out)⟩

-- NOT PRINTED: function 3 (thwartlaw08_SegmentNames)

/-! ### thwartref03_Light: function 56 -/
def thwartref03_Light.l0 : Nat → List (S50) → Int → Int → Option (Bool)
 | 0,_,_,_ => none
 | k + 1,x0,x3,x4 => if x4 < (x0.length : Int) then (if x4 < 100 then (if 0 ≤ x4 then (thwartref03_Light.l0 k x0 (wrap64 ((wrap64 (x3 + (mn (((rd_T50 x0 x4).f1).size : Int) 10000))) + (mn (((rd_T50 x0 x4).f2).size : Int) 10000))) (wrap64 (x4 + 1))) else (none)) else (if (x0.length : Int) ≤ 40 then (some (decide (x3 < 4000))) else (some false))) else (if (x0.length : Int) ≤ 40 then (some (decide (x3 < 4000))) else (some false))
def thwartref03_Light.f (k : Nat) (l0 : List (S50)) : Option (Bool):=thwartref03_Light.l0 k l0 0 0
theorem thwartref03_Light.mono_l : ∀ k,(∀ y0 y1 y2,LeO (thwartref03_Light.l0 k y0 y1 y2) (thwartref03_Light.l0 (k + 1) y0 y1 y2))
 | 0 => fun _ _ _ r h => by simp [thwartref03_Light.l0] at h
 | k + 1 => by
  have ih0:=thwartref03_Light.mono_l k
  ·intro y0 y1 y2
   unfold thwartref03_Light.l0
   repeat' first
   | (with_reducible exact ih0 _ _ _)
   | (with_reducible exact LeO.refl _)
   | (with_reducible exact LeO.none _)
   | (with_reducible refine LeO.ite ?_ ?_)
   | (with_reducible refine LeO.bind ?_ (fun _ => ?_))
   | exact ih0 _ _ _
   | exact LeO.none _
   | refine LeO.ite ?_ ?_
   | refine LeO.bind ?_ (fun _ => ?_)
theorem thwartref03_Light.mono : ∀ a0 k,LeO (thwartref03_Light.f k a0) (thwartref03_Light.f (k + 1) a0):=by
 intro a0 k
 have ih0:=thwartref03_Light.mono_l k
 unfold thwartref03_Light.f
 repeat' first
   | (with_reducible exact ih0 _ _ _)
   | (with_reducible exact LeO.refl _)
   | (with_reducible exact LeO.none _)
   | (with_reducible refine LeO.ite ?_ ?_)
   | (with_reducible refine LeO.bind ?_ (fun _ => ?_))
   | exact ih0 _ _ _
   | exact LeO.none _
   | refine LeO.ite ?_ ?_
   | refine LeO.bind ?_ (fun _ => ?_)
set_option maxHeartbeats 8000000 in
set_option maxRecDepth 100000 in
theorem thwartref03_Light.calls (k : Nat) (A0 : Option Addr) (c0 : Nat) (l0 : List (S50)) (r : Bool) (w : World) (hr0 : Kd.C k50 w A0 l0.length l0) (hc0 : l0.length ≤ c0) (h : thwartref03_Light.f k l0 = some r) :
  Calls Tryz.prog 56 #[.slice A0 l0.length c0] w fun e w' => e = .returned (.bool r) ∧ Below w.heap.size w w' := by
 have HR0:=Aside0.mk hr0
 have HC0:=Aside0.mk hc0
 clear hr0 hc0
 have HB:=Aside0.mk (Below.refl w.heap.size w)
 have H : (thwartref03_Light.l0 k l0 0 0) = some r:=h
 clear h
 have H' := Aside0.mk H
 clear H
 go_enter Tryz.func56,Tryz.ntmps56
 go_wp2
 repeat (go_quiet (fail);try go_wp2)
 go_loopg [3,4] k (fun kq v3 v4 w' => ∃ (x3_1 : Int) (x4_1 : Int),v3 = .int .i64 x3_1 ∧ v4 = .int .i64 x4_1 ∧ Aside0 (thwartref03_Light.l0 kq l0 x3_1 x4_1 = some r) ∧ Aside0 (kq ≤ k) ∧ Aside0 (Below w.heap.size w w'))
 case atStart => exact ⟨(0),(0),(by first | rfl | (simp;done) | (simp [*];done)),(by first | rfl | (simp;done) | (simp [*];done)),H',⟨Nat.le_refl _⟩,⟨by repeat (first | (with_reducible first | exact HB.out | apply below_alloc | apply pw_below_drewN | apply below_drew1) | exact HB.out)⟩⟩
 case round =>
  clear H'
  obtain ⟨x3_1,x4_1,rfl,rfl,HA,HK1,HB⟩:=hrel
  cases gk with
  | zero => exact absurd HA.out (by simp [thwartref03_Light.l0])
  | succ k1 =>
   have H:=HA.out
   clear HA
   simp only [thwartref03_Light.l0] at H
   by_cases c2 : x4_1 < (l0.length : Int)
   ·rw [if_pos c2] at H
    have c2b0 : decide (x4_1 < (l0.length : Int)) = true:=decide_eq_true c2
    clear c2
    by_cases c3 : x4_1 < 100
    ·rw [if_pos c3] at H
     have c3b0 : decide (x4_1 < 100) = true:=decide_eq_true c3
     clear c3
     by_cases c4 : 0 ≤ x4_1
     ·rw [if_pos c4] at H
      have c4b0 : decide (0 ≤ x4_1) = true:=decide_eq_true c4
      clear c4
      obtain ⟨ji5,hji5⟩ : ∃ j_ : Int,(mn (((rd_T50 l0 x4_1).f1).size : Int) 10000) = j_:=⟨_,rfl⟩
      replace H : (thwartref03_Light.l0 k1 l0 (wrap64 ((wrap64 (x3_1 + (ji5))) + (mn (((rd_T50 l0 x4_1).f2).size : Int) 10000))) (wrap64 (x4_1 + 1))) = some r:=by first | (rw [hji5] at H;exact H) | (simp only [hji5] at H ⊢;exact H)
      have hji5_ : (if 10000 < (((rd_T50 l0 x4_1).f1).size : Int) then 10000 else (((rd_T50 l0 x4_1).f1).size : Int)) = ji5:=hji5
      obtain ⟨ji6,hji6⟩ : ∃ j_ : Int,(mn (((rd_T50 l0 x4_1).f2).size : Int) 10000) = j_:=⟨_,rfl⟩
      replace H : (thwartref03_Light.l0 k1 l0 (wrap64 ((wrap64 (x3_1 + (ji5))) + (ji6))) (wrap64 (x4_1 + 1))) = some r:=by first | (rw [hji6] at H;exact H) | (simp only [hji6] at H ⊢;exact H)
      have hji6_ : (if 10000 < (((rd_T50 l0 x4_1).f2).size : Int) then 10000 else (((rd_T50 l0 x4_1).f2).size : Int)) = ji6:=hji6
      have H' := Aside0.mk H
      clear H
      have p452 : 0 ≤ (x4_1 : Int):=of_decide_eq_true (by first | (with_reducible assumption) | assumption)
      have q452 : x4_1 < (l0.length : Int):=of_decide_eq_true (by first | (with_reducible assumption) | assumption)
      obtain ⟨ad452,e452,hx452_0,hx452_1,hx452_2,hx452_3⟩:=at_T50 HR0.out x4_1 p452 q452
      cases e452
      replace hx452_0:=(HB.out.cell (World.block_lt_of_cell? w _ hx452_0)).trans hx452_0
      replace hx452_1:=(HB.out.cell (World.block_lt_of_cell? w _ hx452_1)).trans hx452_1
      replace hx452_2:=(HB.out.cell (World.block_lt_of_cell? w _ hx452_2)).trans hx452_2
      replace hx452_3:=(HB.out.cell (World.block_lt_of_cell? w _ hx452_3)).trans hx452_3
      replace p452:=eq_true p452
      replace q452:=eq_true q452
      have p453 : 0 ≤ (x4_1 : Int):=of_decide_eq_true (by first | (with_reducible assumption) | assumption)
      have q453 : x4_1 < (l0.length : Int):=of_decide_eq_true (by first | (with_reducible assumption) | assumption)
      obtain ⟨ad453,e453,hx453_0,hx453_1,hx453_2,hx453_3⟩:=at_T50 HR0.out x4_1 p453 q453
      obtain rfl : ad452 = ad453:=(by injection e453)
      replace hx453_0:=(HB.out.cell (World.block_lt_of_cell? w _ hx453_0)).trans hx453_0
      replace hx453_1:=(HB.out.cell (World.block_lt_of_cell? w _ hx453_1)).trans hx453_1
      replace hx453_2:=(HB.out.cell (World.block_lt_of_cell? w _ hx453_2)).trans hx453_2
      replace hx453_3:=(HB.out.cell (World.block_lt_of_cell? w _ hx453_3)).trans hx453_3
      replace p453:=eq_true p453
      replace q453:=eq_true q453
      go_wp2
      repeat (go_quiet (fail);try go_wp2)
      go_roundg k1
      case measure => have:=HK1.out;omega
      case rel => exact ⟨(wrap64 ((wrap64 (x3_1 + (ji5))) + (ji6))),(wrap64 (x4_1 + 1)),(by first | rfl | (simp;done) | (simp only [← hji5,← hji6] <;> (first | rfl | simp)) | (simp [*];done)),(by first | rfl | (simp;done) | (simp [*];done)),H',⟨by have:=HK1.out;omega⟩,⟨by repeat (first | (with_reducible first | exact HB.out | apply below_alloc | apply pw_below_drewN | apply below_drew1) | exact HB.out)⟩⟩
     ·rw [if_neg c4] at H
      exact absurd H (by simp)
    ·rw [if_neg c3] at H
     have c3b0 : decide (x4_1 < 100) = false:=decide_eq_false c3
     clear c3
     by_cases c7 : (l0.length : Int) ≤ 40
     ·rw [if_pos c7] at H
      have c7b0 : decide ((l0.length : Int) ≤ 40) = true:=decide_eq_true c7
      have c7b1 : decide (l0.length ≤ 40) = true:=decide_eq_true (by omega)
      clear c7
      obtain rfl:=Option.some.inj H
      go_wp2
      repeat (go_quiet (fail);try go_wp2)
      go_ret
      exact ⟨by first | rfl | (simp [errW_none,errW_some] <;> rfl) | (simp [*,errW_none,errW_some] <;> rfl) | (simp [errW_none,errW_some];exact isEmpty_bne _),by repeat (first | (with_reducible first | exact HB.out | apply below_alloc | apply pw_below_drewN | apply below_drew1) | exact HB.out)⟩
     ·rw [if_neg c7] at H
      have c7b0 : decide ((l0.length : Int) ≤ 40) = false:=decide_eq_false c7
      have c7b1 : decide (l0.length ≤ 40) = false:=decide_eq_false (by omega)
      clear c7
      obtain rfl:=Option.some.inj H
      go_wp2
      repeat (go_quiet (fail);try go_wp2)
      go_ret
      exact ⟨by first | rfl | (simp [errW_none,errW_some] <;> rfl) | (simp [*,errW_none,errW_some] <;> rfl) | (simp [errW_none,errW_some];exact isEmpty_bne _),by repeat (first | (with_reducible first | exact HB.out | apply below_alloc | apply pw_below_drewN | apply below_drew1) | exact HB.out)⟩
   ·rw [if_neg c2] at H
    have c2b0 : decide (x4_1 < (l0.length : Int)) = false:=decide_eq_false c2
    clear c2
    by_cases c8 : (l0.length : Int) ≤ 40
    ·rw [if_pos c8] at H
     have c8b0 : decide ((l0.length : Int) ≤ 40) = true:=decide_eq_true c8
     have c8b1 : decide (l0.length ≤ 40) = true:=decide_eq_true (by omega)
     clear c8
     obtain rfl:=Option.some.inj H
     go_wp2
     repeat (go_quiet (fail);try go_wp2)
     go_ret
     exact ⟨by first | rfl | (simp [errW_none,errW_some] <;> rfl) | (simp [*,errW_none,errW_some] <;> rfl) | (simp [errW_none,errW_some];exact isEmpty_bne _),by repeat (first | (with_reducible first | exact HB.out | apply below_alloc | apply pw_below_drewN | apply below_drew1) | exact HB.out)⟩
    ·rw [if_neg c8] at H
     have c8b0 : decide ((l0.length : Int) ≤ 40) = false:=decide_eq_false c8
     have c8b1 : decide (l0.length ≤ 40) = false:=decide_eq_false (by omega)
     clear c8
     obtain rfl:=Option.some.inj H
     go_wp2
     repeat (go_quiet (fail);try go_wp2)
     go_ret
     exact ⟨by first | rfl | (simp [errW_none,errW_some] <;> rfl) | (simp [*,errW_none,errW_some] <;> rfl) | (simp [errW_none,errW_some];exact isEmpty_bne _),by repeat (first | (with_reducible first | exact HB.out | apply below_alloc | apply pw_below_drewN | apply below_drew1) | exact HB.out)⟩

/-! ### thwartref04_Light: function 15 -/
mutual
def thwartref04_Light.l0 : Nat → List (List (S50)) → Int → Int → Option (Bool)
 | 0,_,_,_ => none
 | k + 1,x0,x3,x4 => if x4 < (x0.length : Int) then (thwartref04_Light.j1 k x0 x3 x4 (decide (x4 < 30))) else (thwartref04_Light.j1 k x0 x3 x4 false)
def thwartref04_Light.j1 : Nat → List (List (S50)) → Int → Int → Bool → Option (Bool)
 | 0,_,_,_,_ => none
 | k + 1,x0,x3,x4,x12 => if x12 = true then (if 0 ≤ x4 then (if x4 < (x0.length : Int) then ((thwartref03_Light.f k (rd_L9 x0 x4)).bind fun t455 => (if t455 = true then (thwartref04_Light.l0 k x0 (wrap64 (x3 + ((rd_L9 x0 x4).length : Int))) (wrap64 (x4 + 1))) else (some false))) else (none)) else (none)) else (if (x0.length : Int) ≤ 20 then (some (decide (x3 ≤ 60))) else (some false))
end
def thwartref04_Light.f (k : Nat) (l0 : List (List (S50))) : Option (Bool):=thwartref04_Light.l0 k l0 0 0
theorem thwartref04_Light.mono_l : ∀ k,(∀ y0 y1 y2,LeO (thwartref04_Light.l0 k y0 y1 y2) (thwartref04_Light.l0 (k + 1) y0 y1 y2)) ∧ (∀ y0 y1 y2 y3,LeO (thwartref04_Light.j1 k y0 y1 y2 y3) (thwartref04_Light.j1 (k + 1) y0 y1 y2 y3))
 | 0 => ⟨fun _ _ _ r h => by simp [thwartref04_Light.l0] at h,fun _ _ _ _ r h => by simp [thwartref04_Light.j1] at h⟩
 | k + 1 => by
  obtain ⟨ih0,ih1⟩:=thwartref04_Light.mono_l k
  refine ⟨?_,?_⟩
  ·intro y0 y1 y2
   unfold thwartref04_Light.l0
   repeat' first
   | (with_reducible exact ih0 _ _ _)
   | (with_reducible exact ih1 _ _ _ _)
   | (with_reducible exact thwartref03_Light.mono _ _)
   | (with_reducible exact LeO.refl _)
   | (with_reducible exact LeO.none _)
   | (with_reducible refine LeO.ite ?_ ?_)
   | (with_reducible refine LeO.bind ?_ (fun _ => ?_))
   | exact ih0 _ _ _
   | exact ih1 _ _ _ _
   | exact thwartref03_Light.mono _ _
   | exact LeO.none _
   | refine LeO.ite ?_ ?_
   | refine LeO.bind ?_ (fun _ => ?_)
  ·intro y0 y1 y2 y3
   unfold thwartref04_Light.j1
   repeat' first
   | (with_reducible exact ih0 _ _ _)
   | (with_reducible exact ih1 _ _ _ _)
   | (with_reducible exact thwartref03_Light.mono _ _)
   | (with_reducible exact LeO.refl _)
   | (with_reducible exact LeO.none _)
   | (with_reducible refine LeO.ite ?_ ?_)
   | (with_reducible refine LeO.bind ?_ (fun _ => ?_))
   | exact ih0 _ _ _
   | exact ih1 _ _ _ _
   | exact thwartref03_Light.mono _ _
   | exact LeO.none _
   | refine LeO.ite ?_ ?_
   | refine LeO.bind ?_ (fun _ => ?_)
theorem thwartref04_Light.mono : ∀ a0 k,LeO (thwartref04_Light.f k a0) (thwartref04_Light.f (k + 1) a0):=by
 intro a0 k
 obtain ⟨ih0,ih1⟩:=thwartref04_Light.mono_l k
 unfold thwartref04_Light.f
 repeat' first
   | (with_reducible exact ih0 _ _ _)
   | (with_reducible exact ih1 _ _ _ _)
   | (with_reducible exact thwartref03_Light.mono _ _)
   | (with_reducible exact LeO.refl _)
   | (with_reducible exact LeO.none _)
   | (with_reducible refine LeO.ite ?_ ?_)
   | (with_reducible refine LeO.bind ?_ (fun _ => ?_))
   | exact ih0 _ _ _
   | exact ih1 _ _ _ _
   | exact thwartref03_Light.mono _ _
   | exact LeO.none _
   | refine LeO.ite ?_ ?_
   | refine LeO.bind ?_ (fun _ => ?_)
set_option maxHeartbeats 8000000 in
set_option maxRecDepth 100000 in
theorem thwartref04_Light.calls (k : Nat) (A0 : Option Addr) (c0 : Nat) (l0 : List (List (S50))) (r : Bool) (w : World) (hr0 : Kd.C (Kd.slice 50 k50) w A0 l0.length l0) (hc0 : l0.length ≤ c0) (h : thwartref04_Light.f k l0 = some r) :
  Calls Tryz.prog 15 #[.slice A0 l0.length c0] w fun e w' => e = .returned (.bool r) ∧ Below w.heap.size w w' := by
 have HR0:=Aside0.mk hr0
 have HC0:=Aside0.mk hc0
 clear hr0 hc0
 have HB:=Aside0.mk (Below.refl w.heap.size w)
 have H : (thwartref04_Light.l0 k l0 0 0) = some r:=h
 clear h
 have H' := Aside0.mk H
 clear H
 go_enter Tryz.func15,Tryz.ntmps15
 go_wp2
 go_loopg [3,4] k (fun kq v3 v4 w' => ∃ (x3_1 : Int) (x4_1 : Int),v3 = .int .i64 x3_1 ∧ v4 = .int .i64 x4_1 ∧ Aside0 (thwartref04_Light.l0 kq l0 x3_1 x4_1 = some r) ∧ Aside0 (kq ≤ k) ∧ Aside0 (Below w.heap.size w w'))
 case atStart => exact ⟨(0),(0),(by first | rfl | (simp;done) | (simp [*];done)),(by first | rfl | (simp;done) | (simp [*];done)),H',⟨Nat.le_refl _⟩,⟨by repeat (first | (with_reducible first | exact HB.out | apply below_alloc | apply pw_below_drewN | apply below_drew1) | exact HB.out)⟩⟩
 case round =>
  clear H'
  try clear c1
  obtain ⟨x3_1,x4_1,rfl,rfl,HA,HK1,HB⟩:=hrel
  cases gk with
  | zero => exact absurd HA.out (by simp [thwartref04_Light.l0])
  | succ k1 =>
   have H:=HA.out
   clear HA
   simp only [thwartref04_Light.l0] at H
   have HC2:=Aside0.mk H
   clear H
   go_upto_region 3 with (fail)
   go_cut [12] (fun v12 wc => ∃ (kq : Nat) (x12_1 : Bool),v12 = .bool x12_1 ∧ Aside0 (thwartref04_Light.j1 kq l0 x3_1 x4_1 x12_1 = some r) ∧ Aside0 (kq ≤ k1) ∧ Aside0 (Below w.heap.size w wc))
   case first =>
    have H:=HC2.out
    clear HC2
    by_cases c3 : x4_1 < (l0.length : Int)
    ·rw [if_pos c3] at H
     have c3b0 : decide (x4_1 < (l0.length : Int)) = true:=decide_eq_true c3
     clear c3
     (first | rw [c3b0] | (simp only [i64_w,i32_w];rw [c3b0]) | skip)
     have H' := Aside0.mk H
     clear H
     go_wp2
     go_meet
     case rel => exact ⟨_,(decide (x4_1 < 30)),(by first | rfl | (simp;done) | (simp [*];done)),H',⟨by have:=HK1.out;first | omega | exact Nat.le_refl _⟩,⟨by repeat (first | (with_reducible first | exact HB.out | apply below_alloc | apply pw_below_drewN | apply below_drew1) | exact HB.out)⟩⟩
    ·rw [if_neg c3] at H
     have c3b0 : decide (x4_1 < (l0.length : Int)) = false:=decide_eq_false c3
     clear c3
     (first | rw [c3b0] | (simp only [i64_w,i32_w];rw [c3b0]) | skip)
     have H' := Aside0.mk H
     clear H
     go_wp2
     go_meet
     case rel => exact ⟨_,(false),(by first | rfl | (simp;done) | (simp [*];done)),H',⟨by have:=HK1.out;first | omega | exact Nat.le_refl _⟩,⟨by repeat (first | (with_reducible first | exact HB.out | apply below_alloc | apply pw_below_drewN | apply below_drew1) | exact HB.out)⟩⟩
   case rest =>
    clear HC2
    try clear c1
    try clear p2
    try clear c3
    try clear c3b0
    obtain ⟨kq,x12_1,rfl,HA,HJ1,HB⟩:=hcut
    cases kq with
    | zero => exact absurd HA.out (by simp [thwartref04_Light.j1])
    | succ kj1 =>
     have H:=HA.out
     clear HA
     simp only [thwartref04_Light.j1] at H
     by_cases c4 : x12_1 = true
     ·subst c4
      have H1 : (if 0 ≤ x4_1 then (if x4_1 < (l0.length : Int) then ((thwartref03_Light.f kj1 (rd_L9 l0 x4_1)).bind fun t455 => (if t455 = true then (thwartref04_Light.l0 kj1 l0 (wrap64 (x3_1 + ((rd_L9 l0 x4_1).length : Int))) (wrap64 (x4_1 + 1))) else (some false))) else (none)) else (none)) = some r:=by rw [if_pos rfl] at H;exact H
      clear H
      have H:=H1
      clear H1
      by_cases c5 : 0 ≤ x4_1
      ·rw [if_pos c5] at H
       have c5b0 : decide (0 ≤ x4_1) = true:=decide_eq_true c5
       clear c5
       by_cases c6 : x4_1 < (l0.length : Int)
       ·rw [if_pos c6] at H
        have c6b0 : decide (x4_1 < (l0.length : Int)) = true:=decide_eq_true c6
        clear c6
        replace H:=Option.bind_eq_some_iff.mp H
        obtain ⟨t455,A70,H⟩:=H
        replace H : (if t455 = true then (thwartref04_Light.l0 kj1 l0 (wrap64 (x3_1 + ((rd_L9 l0 x4_1).length : Int))) (wrap64 (x4_1 + 1))) else (some false)) = some r:=H
        have A7:=Aside0.mk A70
        clear A70
        by_cases c8 : t455 = true
        ·subst c8
         have H1 : (thwartref04_Light.l0 kj1 l0 (wrap64 (x3_1 + ((rd_L9 l0 x4_1).length : Int))) (wrap64 (x4_1 + 1))) = some r:=by rw [if_pos rfl] at H;exact H
         clear H
         have H:=H1
         clear H1
         have H' := Aside0.mk H
         clear H
         have p454 : 0 ≤ (x4_1 : Int):=of_decide_eq_true (by first | (with_reducible assumption) | assumption)
         have q454 : x4_1 < (l0.length : Int):=of_decide_eq_true (by first | (with_reducible assumption) | assumption)
         obtain ⟨ad454,A454_0,c454_0,e454,hx454_0,hl454_0,hi454_0⟩:=at_L9 HR0.out x4_1 p454 q454
         cases e454
         replace hx454_0:=(HB.out.cell (World.block_lt_of_cell? w _ hx454_0)).trans hx454_0
         have HR454_0:=Aside0.mk hi454_0
         have HC454_0:=Aside0.mk hl454_0
         clear hi454_0 hl454_0
         replace p454:=eq_true p454
         replace q454:=eq_true q454
         go_wp2_with (first | ((with_reducible refine gate_callee (f:=56) rfl ?_);refine goesL_ (some 19) rfl rfl Tryz.func56 (by kernel_rfl) rfl #[.slice A454_0 (rd_L9 l0 x4_1).length c454_0] rfl (by (try simp only [List.map_toArray,List.map_cons,List.map_nil]);first | done | rfl | (simp only [List.length_drop,List.length_take];rfl)) ?_;(with_reducible refine (thwartref03_Light.calls kj1 _ _ (rd_L9 l0 x4_1) true _ ?side1 ?side2 A7.out).mono ?_);(case side1 => repeat (first | exact (Kd.C_below HR454_0.out HB.out) | (with_reducible refine Kd.C_alloc ?_ _) | (with_reducible refine Kd.C_drewN ?_ _) | (with_reducible refine Kd.C_drew ?_)));(case side2 => exact HC454_0.out);rintro e w9 ⟨rfl,hb⟩;refine ⟨_,rfl,?_⟩;have n0_:=Aside0.mk (below_step (by repeat (first | (with_reducible first | exact HB.out | apply below_alloc | apply pw_below_drewN | apply below_drew1) | exact HB.out)) hb);clear HB;have HB:=n0_;clear n0_;(try clear hb);(try clear hb2);(try clear hk);(try clear hi);have p456 : 0 ≤ (x4_1 : Int):=of_decide_eq_true (by first | (with_reducible assumption) | assumption);have q456 : x4_1 < (l0.length : Int):=of_decide_eq_true (by first | (with_reducible assumption) | assumption);obtain ⟨ad456,A456_0,c456_0,e456,hx456_0,hl456_0,hi456_0⟩:=at_L9 HR0.out x4_1 p456 q456;obtain rfl : ad454 = ad456:=(by injection e456);replace hx456_0:=(HB.out.cell (World.block_lt_of_cell? w _ hx456_0)).trans hx456_0;have HR456_0:=Aside0.mk hi456_0;have HC456_0:=Aside0.mk hl456_0;clear hi456_0 hl456_0;replace p456:=eq_true p456;replace q456:=eq_true q456))
         go_roundg kj1
         case measure => have:=HK1.out;have:=HJ1.out;omega
         case rel => exact ⟨(wrap64 (x3_1 + ((rd_L9 l0 x4_1).length : Int))),(wrap64 (x4_1 + 1)),(by first | rfl | (simp;done) | (simp [*];done)),(by first | rfl | (simp;done) | (simp [*];done)),H',⟨by have:=HK1.out;have:=HJ1.out;omega⟩,⟨by repeat (first | (with_reducible first | exact HB.out | apply below_alloc | apply pw_below_drewN | apply below_drew1) | exact HB.out)⟩⟩
        ·replace c8:=Bool.eq_false_iff.mpr c8
         subst c8
         have H1 : (some false) = some r:=by rw [if_neg (show ¬ (false = true) by decide)] at H;exact H
         clear H
         have H:=H1
         clear H1
         obtain rfl:=Option.some.inj H
         have p454 : 0 ≤ (x4_1 : Int):=of_decide_eq_true (by first | (with_reducible assumption) | assumption)
         have q454 : x4_1 < (l0.length : Int):=of_decide_eq_true (by first | (with_reducible assumption) | assumption)
         obtain ⟨ad454,A454_0,c454_0,e454,hx454_0,hl454_0,hi454_0⟩:=at_L9 HR0.out x4_1 p454 q454
         cases e454
         replace hx454_0:=(HB.out.cell (World.block_lt_of_cell? w _ hx454_0)).trans hx454_0
         have HR454_0:=Aside0.mk hi454_0
         have HC454_0:=Aside0.mk hl454_0
         clear hi454_0 hl454_0
         replace p454:=eq_true p454
         replace q454:=eq_true q454
         go_wp2_with (first | ((with_reducible refine gate_callee (f:=56) rfl ?_);refine goesL_ (some 19) rfl rfl Tryz.func56 (by kernel_rfl) rfl #[.slice A454_0 (rd_L9 l0 x4_1).length c454_0] rfl (by (try simp only [List.map_toArray,List.map_cons,List.map_nil]);first | done | rfl | (simp only [List.length_drop,List.length_take];rfl)) ?_;(with_reducible refine (thwartref03_Light.calls kj1 _ _ (rd_L9 l0 x4_1) false _ ?side1 ?side2 A7.out).mono ?_);(case side1 => repeat (first | exact (Kd.C_below HR454_0.out HB.out) | (with_reducible refine Kd.C_alloc ?_ _) | (with_reducible refine Kd.C_drewN ?_ _) | (with_reducible refine Kd.C_drew ?_)));(case side2 => exact HC454_0.out);rintro e w10 ⟨rfl,hb⟩;refine ⟨_,rfl,?_⟩;have n0_:=Aside0.mk (below_step (by repeat (first | (with_reducible first | exact HB.out | apply below_alloc | apply pw_below_drewN | apply below_drew1) | exact HB.out)) hb);clear HB;have HB:=n0_;clear n0_;(try clear hb);(try clear hb2);(try clear hk);(try clear hi)))
         go_ret
         exact ⟨by first | rfl | (simp [errW_none,errW_some] <;> rfl) | (simp [*,errW_none,errW_some] <;> rfl) | (simp [errW_none,errW_some];exact isEmpty_bne _),by repeat (first | (with_reducible first | exact HB.out | apply below_alloc | apply pw_below_drewN | apply below_drew1) | exact HB.out)⟩
       ·rw [if_neg c6] at H
        exact absurd H (by simp)
      ·rw [if_neg c5] at H
       exact absurd H (by simp)
     ·replace c4:=Bool.eq_false_iff.mpr c4
      subst c4
      have H1 : (if (l0.length : Int) ≤ 20 then (some (decide (x3_1 ≤ 60))) else (some false)) = some r:=by rw [if_neg (show ¬ (false = true) by decide)] at H;exact H
      clear H
      have H:=H1
      clear H1
      by_cases c11 : (l0.length : Int) ≤ 20
      ·rw [if_pos c11] at H
       have c11b0 : decide ((l0.length : Int) ≤ 20) = true:=decide_eq_true c11
       have c11b1 : decide (l0.length ≤ 20) = true:=decide_eq_true (by omega)
       clear c11
       obtain rfl:=Option.some.inj H
       go_wp2
       go_ret
       exact ⟨by first | rfl | (simp [errW_none,errW_some] <;> rfl) | (simp [*,errW_none,errW_some] <;> rfl) | (simp [errW_none,errW_some];exact isEmpty_bne _),by repeat (first | (with_reducible first | exact HB.out | apply below_alloc | apply pw_below_drewN | apply below_drew1) | exact HB.out)⟩
      ·rw [if_neg c11] at H
       have c11b0 : decide ((l0.length : Int) ≤ 20) = false:=decide_eq_false c11
       have c11b1 : decide (l0.length ≤ 20) = false:=decide_eq_false (by omega)
       clear c11
       obtain rfl:=Option.some.inj H
       go_wp2
       go_ret
       exact ⟨by first | rfl | (simp [errW_none,errW_some] <;> rfl) | (simp [*,errW_none,errW_some] <;> rfl) | (simp [errW_none,errW_some];exact isEmpty_bne _),by repeat (first | (with_reducible first | exact HB.out | apply below_alloc | apply pw_below_drewN | apply below_drew1) | exact HB.out)⟩

end Go.Proofs.YthndpknocofioaaGreatDoor.Print
