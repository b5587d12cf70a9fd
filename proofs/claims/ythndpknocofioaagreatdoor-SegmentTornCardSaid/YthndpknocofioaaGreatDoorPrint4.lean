/- Written by a program of mine (give.py, over the kit's print) out of the translation: contracts of the Go functions. Lean checks it. -/
import Derived.Test.YthndpknocofioaaGreatDoorPrint0
import Derived.Test.YthndpknocofioaaGreatDoorPrint1
namespace Go.Proofs.YthndpknocofioaaGreatDoor.Print
open Go.RowKit Go.Proofs.YthndpknocofioaaGreatDoorW.PrintWords Go.Proofs.YthndpknocofioaaGreatDoorW.PrintLast Go.Proofs.YthndpknocofioaaGreatDoorW.PrintMore
attribute [local go_sem] max2_int min2_int max_two min_two max_three min_three max_four min_four   -- for this text's walks alone
set_option linter.unusedVariables false
set_option linter.unusedSimpArgs false

attribute [local go_sem high] eqA50
/-! ### segment_right: function 57 -/
def segment_right.f (a0 : Int) : Option (Bool):=if a0 ≥ 0 then (some (decide (a0 ≤ 999999))) else (some false)
set_option maxHeartbeats 8000000 in
set_option maxRecDepth 100000 in
theorem segment_right.calls (a0 : Int) (r : Bool) (w : World) (h : segment_right.f a0 = some r) :
  Calls Tryz.prog 57 #[.int .i64 a0] w fun e w' => e = .returned (.bool r) ∧ Drawn0 w w' := by
 have H : (if a0 ≥ 0 then (some (decide (a0 ≤ 999999))) else (some false)) = some r:=h
 clear h
 by_cases c2 : a0 ≥ 0
 ·rw [if_pos c2] at H
  have c2b0 : decide (0 ≤ a0) = true:=decide_eq_true c2
  clear c2
  obtain rfl:=Option.some.inj H
  go_enter Tryz.func57,Tryz.ntmps57
  go_wp2
  go_ret
  exact ⟨by first | rfl | (simp;done) | (simp [*];done),by repeat (first | exact Drawn0.refl _ | apply Drawn0.step)⟩
 ·rw [if_neg c2] at H
  have c2b0 : decide (0 ≤ a0) = false:=decide_eq_false c2
  clear c2
  obtain rfl:=Option.some.inj H
  go_enter Tryz.func57,Tryz.ntmps57
  go_wp2
  go_ret
  exact ⟨by first | rfl | (simp;done) | (simp [*];done),by repeat (first | exact Drawn0.refl _ | apply Drawn0.step)⟩

-- NOT PRINTED: function 187 (strconv_small)

-- NOT PRINTED: function 158 (bits_Len64)

-- NOT PRINTED: function 200 (strconv_log10Pow2)

-- NOT PRINTED: function 201 (strconv_bool2_int)

-- NOT PRINTED: function 188 (strconv_numDigits)

-- NOT PRINTED: function 189 (strconv_formatBase10)

-- NOT PRINTED: function 202 (strconv_isPowerOfTwo)

-- NOT PRINTED: function 205 (bits_TrailingZeros32)

-- NOT PRINTED: function 206 (bits_TrailingZeros64)

-- NOT PRINTED: function 203 (bits_TrailingZeros)

-- NOT PRINTED: function 190 (strconv_formatBits)

-- NOT PRINTED: function 162 (strconv_FormatInt)

-- NOT PRINTED: function 132 (strconv_Itoa_132)

-- NOT PRINTED: function 90 (strconv_Itoa_90)

-- NOT PRINTED: function 163 (bits_Mul32)

-- NOT PRINTED: function 164 (bits_Mul64)

-- NOT PRINTED: function 133 (bits_Mul)

/-! ### stringslite_HasPrefix: function 126 -/
def stringslite_HasPrefix.f (a0 : ByteArray) (a1 : ByteArray) : Option (Bool):=if (a0.size : Int) ≥ (a1.size : Int) then (if 0 ≤ (a1.size : Int) then (if (a1.size : Int) ≤ (a0.size : Int) then (some ((a0.extract 0 ((a1.size : Int) : Int).toNat).toList == a1.toList)) else (none)) else (none)) else (some false)
set_option maxHeartbeats 8000000 in
set_option maxRecDepth 100000 in
theorem stringslite_HasPrefix.calls (a0 : ByteArray) (a1 : ByteArray) (r : Bool) (w : World) (h : stringslite_HasPrefix.f a0 a1 = some r) :
  Calls Tryz.prog 126 #[.string a0,.string a1] w fun e w' => e = .returned (.bool r) ∧ Drawn0 w w' := by
 have H : (if (a0.size : Int) ≥ (a1.size : Int) then (if 0 ≤ (a1.size : Int) then (if (a1.size : Int) ≤ (a0.size : Int) then (some ((a0.extract 0 ((a1.size : Int) : Int).toNat).toList == a1.toList)) else (none)) else (none)) else (some false)) = some r:=h
 clear h
 by_cases c3 : (a0.size : Int) ≥ (a1.size : Int)
 ·rw [if_pos c3] at H
  have c3b0 : decide ((a1.size : Int) ≤ (a0.size : Int)) = true:=decide_eq_true c3
  have c3b1 : decide (a1.size ≤ a0.size) = true:=decide_eq_true (Int.ofNat_le.mp c3)
  clear c3
  by_cases c4 : 0 ≤ (a1.size : Int)
  ·rw [if_pos c4] at H
   have c4b0:=eq_true c4
   have c4b1 : decide (0 ≤ (a1.size : Int)) = true:=decide_eq_true c4
   clear c4
   by_cases c5 : (a1.size : Int) ≤ (a0.size : Int)
   ·rw [if_pos c5] at H
    have c5b0:=eq_true c5
    have c5b1 : decide ((a1.size : Int) ≤ (a0.size : Int)) = true:=decide_eq_true c5
    clear c5
    obtain rfl:=Option.some.inj H
    go_enter Tryz.func126,Tryz.ntmps126
    go_wp2
    go_ret
    exact ⟨by first | rfl | (simp;done) | (simp [*];done),by repeat (first | exact Drawn0.refl _ | apply Drawn0.step)⟩
   ·rw [if_neg c5] at H
    exact absurd H (by simp)
  ·rw [if_neg c4] at H
   exact absurd H (by simp)
 ·rw [if_neg c3] at H
  have c3b0 : decide ((a1.size : Int) ≤ (a0.size : Int)) = false:=decide_eq_false c3
  have c3b1 : decide (a1.size ≤ a0.size) = false:=decide_eq_false (fun h => c3 (Int.ofNat_le.mpr h))
  clear c3
  obtain rfl:=Option.some.inj H
  go_enter Tryz.func126,Tryz.ntmps126
  go_wp2
  go_ret
  exact ⟨by first | rfl | (simp;done) | (simp [*];done),by repeat (first | exact Drawn0.refl _ | apply Drawn0.step)⟩

/-! ### strings_HasPrefix: function 134 -/
def strings_HasPrefix.f (a0 : ByteArray) (a1 : ByteArray) : Option (Bool):=(stringslite_HasPrefix.f a0 a1).bind fun t117 => (some t117)
set_option maxHeartbeats 8000000 in
set_option maxRecDepth 100000 in
theorem strings_HasPrefix.calls (a0 : ByteArray) (a1 : ByteArray) (r : Bool) (w : World) (h : strings_HasPrefix.f a0 a1 = some r) :
  Calls Tryz.prog 134 #[.string a0,.string a1] w fun e w' => e = .returned (.bool r) ∧ Drawn0 w w' := by
 have H : ((stringslite_HasPrefix.f a0 a1).bind fun t117 => (some t117)) = some r:=h
 clear h
 replace H:=Option.bind_eq_some_iff.mp H
 obtain ⟨t117,A30,H⟩:=H
 replace H : (some t117) = some r:=H
 have A3:=Aside0.mk A30
 clear A30
 obtain rfl:=Option.some.inj H
 go_enter Tryz.func134,Tryz.ntmps134
 go_wp2_with (first | ((with_reducible refine gate_callee (f:=126) rfl ?_);refine goesL_ (some 7) rfl rfl Tryz.func126 (by kernel_rfl) rfl #[.string a0,.string a1] rfl (by (try simp only [List.map_toArray,List.map_cons,List.map_nil]);first | done | rfl | (simp only [List.length_drop,List.length_take];rfl)) ?_;(with_reducible refine (stringslite_HasPrefix.calls a0 a1 t117 _ A3.out).mono ?_);rintro e w' ⟨rfl,⟨nd,rfl⟩⟩;refine ⟨_,rfl,?_⟩))
 go_ret
 exact ⟨by first | rfl | (simp;done) | (simp [*];done),by repeat (first | exact Drawn0.refl _ | apply Drawn0.step)⟩

-- NOT PRINTED: function 191 (abi_NoEscape)

-- NOT PRINTED: function 165 (strings_Builder_copyCheck)

-- NOT PRINTED: function 192 (bytealg_MakeNoZero)

-- NOT PRINTED: function 166 (strings_Builder_grow)

-- NOT PRINTED: function 135 (strings_Builder_Grow)

-- NOT PRINTED: function 136 (strings_Builder_WriteString)

-- NOT PRINTED: function 137 (strings_Builder_Len)

-- NOT PRINTED: function 138 (strings_Builder_String)

-- NOT PRINTED: function 91 (strings_Repeat)

-- NOT PRINTED: function 53 (segment_name)

-- NOT PRINTED: function 10 (segment_Name)

/-! ### stringslite_CutPrefix: function 87 -/
def stringslite_CutPrefix.f (a0 : ByteArray) (a1 : ByteArray) : Option (ByteArray × Bool):=(stringslite_HasPrefix.f a0 a1).bind fun t119 => (if t119 = true then (if 0 ≤ (a1.size : Int) then (if (a1.size : Int) ≤ (a0.size : Int) then (some (a0.extract ((a1.size : Int) : Int).toNat a0.size,true)) else (none)) else (none)) else (some (a0,false)))
set_option maxHeartbeats 8000000 in
set_option maxRecDepth 100000 in
theorem stringslite_CutPrefix.calls (a0 : ByteArray) (a1 : ByteArray) (r1 : ByteArray) (r2 : Bool) (w : World) (h : stringslite_CutPrefix.f a0 a1 = some (r1,r2)) :
  Calls Tryz.prog 87 #[.string a0,.string a1] w fun e w' => e = .returned (.tuple #[.string r1,.bool r2]) ∧ Drawn0 w w' := by
 have H : ((stringslite_HasPrefix.f a0 a1).bind fun t119 => (if t119 = true then (if 0 ≤ (a1.size : Int) then (if (a1.size : Int) ≤ (a0.size : Int) then (some (a0.extract ((a1.size : Int) : Int).toNat a0.size,true)) else (none)) else (none)) else (some (a0,false)))) = some (r1,r2):=h
 clear h
 replace H:=Option.bind_eq_some_iff.mp H
 obtain ⟨t119,A30,H⟩:=H
 replace H : (if t119 = true then (if 0 ≤ (a1.size : Int) then (if (a1.size : Int) ≤ (a0.size : Int) then (some (a0.extract ((a1.size : Int) : Int).toNat a0.size,true)) else (none)) else (none)) else (some (a0,false))) = some (r1,r2):=H
 have A3:=Aside0.mk A30
 clear A30
 by_cases c4 : t119 = true
 ·subst c4
  have H1 : (if 0 ≤ (a1.size : Int) then (if (a1.size : Int) ≤ (a0.size : Int) then (some (a0.extract ((a1.size : Int) : Int).toNat a0.size,true)) else (none)) else (none)) = some (r1,r2):=by rw [if_pos rfl] at H;exact H
  clear H
  have H:=H1
  clear H1
  by_cases c5 : 0 ≤ (a1.size : Int)
  ·rw [if_pos c5] at H
   have c5b0:=eq_true c5
   have c5b1 : decide (0 ≤ (a1.size : Int)) = true:=decide_eq_true c5
   clear c5
   by_cases c6 : (a1.size : Int) ≤ (a0.size : Int)
   ·rw [if_pos c6] at H
    have c6b0:=eq_true c6
    have c6b1 : decide ((a1.size : Int) ≤ (a0.size : Int)) = true:=decide_eq_true c6
    clear c6
    simp only [Option.some.injEq,Prod.mk.injEq] at H
    obtain ⟨rfl,rfl⟩:=H
    go_enter Tryz.func87,Tryz.ntmps87
    go_wp2_with (first | ((with_reducible refine gate_callee (f:=126) rfl ?_);refine goesL_ (some 8) rfl rfl Tryz.func126 (by kernel_rfl) rfl #[.string a0,.string a1] rfl (by (try simp only [List.map_toArray,List.map_cons,List.map_nil]);first | done | rfl | (simp only [List.length_drop,List.length_take];rfl)) ?_;(with_reducible refine (stringslite_HasPrefix.calls a0 a1 true _ A3.out).mono ?_);rintro e w' ⟨rfl,⟨nd,rfl⟩⟩;refine ⟨_,rfl,?_⟩))
    go_ret2
    exact ⟨by first | rfl | (simp;done) | (simp [*];done),by repeat (first | exact Drawn0.refl _ | apply Drawn0.step)⟩
   ·rw [if_neg c6] at H
    exact absurd H (by simp)
  ·rw [if_neg c5] at H
   exact absurd H (by simp)
 ·replace c4:=Bool.eq_false_iff.mpr c4
  subst c4
  have H1 : (some (a0,false)) = some (r1,r2):=by rw [if_neg (show ¬ (false = true) by decide)] at H;exact H
  clear H
  have H:=H1
  clear H1
  simp only [Option.some.injEq,Prod.mk.injEq] at H
  obtain ⟨rfl,rfl⟩:=H
  go_enter Tryz.func87,Tryz.ntmps87
  go_wp2_with (first | ((with_reducible refine gate_callee (f:=126) rfl ?_);refine goesL_ (some 8) rfl rfl Tryz.func126 (by kernel_rfl) rfl #[.string a0,.string a1] rfl (by (try simp only [List.map_toArray,List.map_cons,List.map_nil]);first | done | rfl | (simp only [List.length_drop,List.length_take];rfl)) ?_;(with_reducible refine (stringslite_HasPrefix.calls a0 a1 false _ A3.out).mono ?_);rintro e w' ⟨rfl,⟨nd,rfl⟩⟩;refine ⟨_,rfl,?_⟩))
  go_ret2
  exact ⟨by first | rfl | (simp;done) | (simp [*];done),by repeat (first | exact Drawn0.refl _ | apply Drawn0.step)⟩

/-! ### strings_CutPrefix: function 51 -/
def strings_CutPrefix.f (a0 : ByteArray) (a1 : ByteArray) : Option (ByteArray × Bool):=(stringslite_CutPrefix.f a0 a1).bind fun bt120 => (some (bt120.1,bt120.2))
set_option maxHeartbeats 8000000 in
set_option maxRecDepth 100000 in
theorem strings_CutPrefix.calls (a0 : ByteArray) (a1 : ByteArray) (r1 : ByteArray) (r2 : Bool) (w : World) (h : strings_CutPrefix.f a0 a1 = some (r1,r2)) :
  Calls Tryz.prog 51 #[.string a0,.string a1] w fun e w' => e = .returned (.tuple #[.string r1,.bool r2]) ∧ Drawn0 w w' := by
 have H : ((stringslite_CutPrefix.f a0 a1).bind fun bt120 => (some (bt120.1,bt120.2))) = some (r1,r2):=h
 clear h
 replace H:=Option.bind_eq_some_iff.mp H
 obtain ⟨⟨t120,t121⟩,A30,H⟩:=H
 replace H : (some (t120,t121)) = some (r1,r2):=H
 have A3:=Aside0.mk A30
 clear A30
 simp only [Option.some.injEq,Prod.mk.injEq] at H
 obtain ⟨rfl,rfl⟩:=H
 go_enter Tryz.func51,Tryz.ntmps51
 go_wp2_with (first | ((with_reducible refine gate_callee (f:=87) rfl ?_);refine goesL_ (some 8) rfl rfl Tryz.func87 (by kernel_rfl) rfl #[.string a0,.string a1] rfl (by (try simp only [List.map_toArray,List.map_cons,List.map_nil]);first | done | rfl | (simp only [List.length_drop,List.length_take];rfl)) ?_;(with_reducible refine (stringslite_CutPrefix.calls a0 a1 t120 t121 _ A3.out).mono ?_);rintro e w' ⟨rfl,⟨nd,rfl⟩⟩;refine ⟨_,rfl,?_⟩))
 go_ret2
 exact ⟨by first | rfl | (simp;done) | (simp [*];done),by repeat (first | exact Drawn0.refl _ | apply Drawn0.step)⟩

-- NOT PRINTED: function 185 (strconv_lower)

-- NOT PRINTED: function 186 (strconv_underscoreOK)

-- NOT PRINTED: function 159 (strconv_ParseUint)

-- NOT PRINTED: function 127 (strconv_ParseInt)

-- NOT PRINTED: function 88 (strconv_Atoi_88)

-- NOT PRINTED: function 160 (stringslite_Clone)

-- NOT PRINTED: function 128 (strconv_syntaxError)

-- NOT PRINTED: function 129 (strconv_rangeError)

-- NOT PRINTED: function 161 (errors_New)

-- NOT PRINTED: function 130 (strconv_baseError)

-- NOT PRINTED: function 131 (strconv_bitSizeError)

-- NOT PRINTED: function 89 (strconv_toError)

-- NOT PRINTED: function 52 (strconv_Atoi_52)

-- NOT PRINTED: function 8 (segment_Number)

-- NOT PRINTED: function 14 (disk_New)

-- NOT PRINTED: function 23 (disk_Disk_Size)

-- NOT PRINTED: function 49 (disk_Disk_Left)

/-! ### disk_right: function 81 -/
def disk_right.f (a0 : ByteArray) : Option (Bool):=if a0.toList = ([] : List UInt8) then (some false) else (some (decide ((a0.size : Int) ≤ 20)))
set_option maxHeartbeats 8000000 in
set_option maxRecDepth 100000 in
theorem disk_right.calls (a0 : ByteArray) (r : Bool) (w : World) (h : disk_right.f a0 = some r) :
  Calls Tryz.prog 81 #[.string a0] w fun e w' => e = .returned (.bool r) ∧ Drawn0 w w' := by
 have H : (if a0.toList = ([] : List UInt8) then (some false) else (some (decide ((a0.size : Int) ≤ 20)))) = some r:=h
 clear h
 by_cases c2 : a0.toList = ([] : List UInt8)
 ·rw [if_pos c2] at H
  have c2b0 : (a0.toList == ([] : List UInt8)) = true:=beq_iff_eq.mpr c2
  have c2b1 : (a0.toList != ([] : List UInt8)) = false:=bne_eq_false_iff_eq.mpr c2
  clear c2
  obtain rfl:=Option.some.inj H
  go_enter Tryz.func81,Tryz.ntmps81
  go_wp2
  go_ret
  exact ⟨by first | rfl | (simp;done) | (simp [*];done),by repeat (first | exact Drawn0.refl _ | apply Drawn0.step)⟩
 ·rw [if_neg c2] at H
  have c2b0 : (a0.toList == ([] : List UInt8)) = false:=beq_eq_false_iff_ne.mpr c2
  have c2b1 : (a0.toList != ([] : List UInt8)) = true:=bne_iff_ne.mpr c2
  obtain rfl:=Option.some.inj H
  go_enter Tryz.func81,Tryz.ntmps81
  go_wp2
  go_ret
  exact ⟨by first | rfl | (simp;done) | (simp [*];done),by repeat (first | exact Drawn0.refl _ | apply Drawn0.step)⟩

-- NOT PRINTED: function 82 (disk_Disk_burn)

-- NOT PRINTED: function 40 (disk_Disk_Append)

/-! ### frame_fits: function 92 -/
def frame_fits.f (a0 : Int) : Option (Bool):=if a0 ≥ 1 then (some (decide (a0 ≤ 16))) else (some false)
set_option maxHeartbeats 8000000 in
set_option maxRecDepth 100000 in
theorem frame_fits.calls (a0 : Int) (r : Bool) (w : World) (h : frame_fits.f a0 = some r) :
  Calls Tryz.prog 92 #[.int .i64 a0] w fun e w' => e = .returned (.bool r) ∧ Drawn0 w w' := by
 have H : (if a0 ≥ 1 then (some (decide (a0 ≤ 16))) else (some false)) = some r:=h
 clear h
 by_cases c2 : a0 ≥ 1
 ·rw [if_pos c2] at H
  have c2b0 : decide (1 ≤ a0) = true:=decide_eq_true c2
  clear c2
  obtain rfl:=Option.some.inj H
  go_enter Tryz.func92,Tryz.ntmps92
  go_wp2
  go_ret
  exact ⟨by first | rfl | (simp;done) | (simp [*];done),by repeat (first | exact Drawn0.refl _ | apply Drawn0.step)⟩
 ·rw [if_neg c2] at H
  have c2b0 : decide (1 ≤ a0) = false:=decide_eq_false c2
  clear c2
  obtain rfl:=Option.some.inj H
  go_enter Tryz.func92,Tryz.ntmps92
  go_wp2
  go_ret
  exact ⟨by first | rfl | (simp;done) | (simp [*];done),by repeat (first | exact Drawn0.refl _ | apply Drawn0.step)⟩

/-! ### varint_Put: function 113 -/
theorem run_sliceAt_array_hm {P : Program} (w : World) (t : TypeId) (a : Addr) (ht : P.underlying t = some (.array (P.arrayLen t) (P.elem t))) (kh km : IntKind) (h m : Int) (h0 : 0 ≤ h) (h2 : h ≤ m) (h3 : m ≤ P.arrayLen t) :
    (Instr.sliceAt t (.pointer (some a)) none (some (.int kh h)) (some (.int km m))).run P w =
      ((sizeOf (P.elem t)).run P w).andThen fun s w => .ok (slicedAt a 0 h.toNat m.toNat s) w := by
  have em : (m.toNat : Int) = m := Int.toNat_of_nonneg (by omega)
  simp [Instr.sliceAt, Instr.sureAddr, slicedAt, run_underlying ht, Instr.sliceBounds, run_sliceBound, sliced, *, em, (by omega : 0 ≤ h), (by omega : 0 ≤ m)]
theorem ediv_twice (a b c : Int) (h : 0 ≤ b) : a / b / c = a / (b * c) := Int.ediv_ediv_of_nonneg h
/-- The bytes of a number, as Put lays them: 'k' more may follow. -/
def putF : Nat → Int → List Int
  | 0, n => [n]
  | k + 1, n => if n < 128 then [n] else (n % 128 + 128) :: putF k (n / 128)
def varint_Put.f (a0 : Int) : Option ByteArray := if 0 ≤ a0 ∧ a0 < 18446744073709551616 then some (strOfNums (putF 9 a0)) else none
def put_pre (n : Int) (k : Nat) : List Int := (List.range k).map fun j => n / 128 ^ j % 128 + 128
def put_cells (n : Int) (k : Nat) : List Int := put_pre n k ++ List.replicate (10 - k) 0
def put_arr (n : Int) (k : Nat) : Array Value := ((put_cells n k).map (Value.int .u8)).toArray
theorem put_pre_length (n : Int) (k : Nat) : (put_pre n k).length = k := by simp [put_pre]
theorem put_arr_at (n : Int) (k : Nat) (h : k ≤ 9) : (put_arr n k)[k]? = some (.int .u8 0) := by
  simp [put_arr, put_cells, put_pre, List.getElem?_append, List.getElem?_replicate]
  omega
theorem put_or (x : Int) (h : 0 ≤ x) : Go.bits .or .u8 (x % 256) 128 = x % 128 + 128 := by
  have e : ∀ a : Nat, a < 256 → a ||| 128 = a % 128 + 128 := by decide +kernel
  rw [u8_or _ _ (by omega) (by omega) (by omega) (by omega)]
  have h2 := e (x % 256).toNat (by omega)
  have h3 : (128 : Int).toNat = 128 := rfl
  rw [h3, h2]; omega
theorem put_arr_set (n : Int) (k : Nat) (h : k ≤ 8) (hn : 0 ≤ n) : (put_arr n k).setIfInBounds k (.int .u8 (Go.bits .or .u8 (n / 128 ^ k % 256) 128)) = put_arr n (k + 1) := by
  have hp : (0 : Int) < 128 ^ k := Int.pow_pos (by decide)
  rw [put_or _ (Int.ediv_nonneg hn (by omega))]
  apply Array.ext_getElem?
  intro i
  simp only [put_arr, put_cells, put_pre, Array.getElem?_setIfInBounds, List.getElem?_toArray, List.size_toArray, List.length_map, List.length_append, List.length_range, List.length_replicate, List.getElem?_map, List.getElem?_append, List.getElem?_replicate]
  by_cases h1 : k = i
  · subst h1; simp [show k < 10 by omega]; omega
  · rcases Nat.lt_or_ge i k with h2 | h2
    · simp [h1, h2, show i < k + 1 by omega, List.getElem?_range, show i < k from h2]
    · simp [h1, show ¬ i < k by omega, show ¬ i < k + 1 by omega, List.getElem?_range, show ¬ i < k by omega]
      split <;> split <;> first | rfl | omega
theorem putF_pre (n : Int) (h0 : 0 ≤ n) : ∀ (k f : Nat), (∀ j, j < k → 128 ≤ n / 128 ^ j) → n / 128 ^ k < 128 → k ≤ f → putF f n = put_pre n k ++ [n / 128 ^ k]
  | 0, f, _, h, _ => by
    simp at h
    cases f <;> simp [putF, put_pre, h]
  | k + 1, 0, _, _, hf => absurd hf (by omega)
  | k + 1, f + 1, hj, h, hf => by
    have h1 := hj 0 (by omega)
    simp at h1
    have e : ∀ j, n / 128 / 128 ^ j = n / 128 ^ (j + 1) := fun j => by rw [ediv_twice _ _ _ (by decide), Int.pow_succ, Int.mul_comm]
    rw [putF, if_neg (by omega), putF_pre (n / 128) (by omega) k f (fun j h2 => by rw [e]; exact hj (j + 1) (by omega)) (by rw [e]; exact h) (by omega), e]
    simp [put_pre, List.range_succ_eq_map, List.map_map, Function.comp_def, e]
theorem put_last (n : Int) (k : Nat) (h : k ≤ 9) (v : Int) (i : Nat) (hi : i < k + 1) : ((put_arr n k).setIfInBounds k (.int .u8 v))[i]? = some (.int .u8 ((put_pre n k ++ [v]).getD i 0)) := by
  simp only [put_arr, put_cells, Array.getElem?_setIfInBounds, List.getElem?_toArray, List.size_toArray, List.length_map, List.length_append, put_pre_length, List.length_replicate, List.getElem?_map, List.getD_eq_getElem?_getD, List.getElem?_append]
  by_cases h1 : k = i
  · subst h1; simp [show k < 10 by omega]; omega
  · have h2 : i < k := by omega
    have h3 : i < (put_pre n k).length := by rw [put_pre_length]; exact h2
    simp [h1, h2, List.getElem?_eq_getElem h3]

set_option maxHeartbeats 800000 in
theorem varint_Put.calls (a0 : Int) (r : ByteArray) (w : World) (h : varint_Put.f a0 = some r) :
    Calls Tryz.prog 113 #[.int .u64 a0] w fun e w' => e = .returned (.string r) ∧ Below w.heap.size w w' := by
  unfold varint_Put.f at h
  by_cases hb : 0 ≤ a0 ∧ a0 < 18446744073709551616
  case neg => rw [if_neg hb] at h; exact absurd h (by simp)
  rw [if_pos hb] at h
  obtain ⟨h0, h1⟩ := hb
  have HR := Aside0.mk (Option.some.inj h)
  clear h
  go_enter Tryz.func113, Tryz.ntmps113
  go_wp2
  go_loopw [0, 4] (fun n i wr => ∃ k : Nat, k ≤ 9 ∧ i = .int .i64 k ∧ n = .int .u64 (a0 / 128 ^ k) ∧ (∀ j, j < k → 128 ≤ a0 / 128 ^ j) ∧ wr = w.alloc (.cells (put_arr a0 k) 176)) (fun _ i _ => 10 - (intOf i).toNat)
  case atStart => exact ⟨0, by omega, rfl, by simp, by omega, rfl⟩
  case round =>
    obtain ⟨k, hk, rfl, rfl, hj, rfl⟩ := hrel
    have hck := put_arr_at a0 k hk
    have HJ := Aside0.mk hj
    clear hj
    have hp : (0 : Int) < 128 ^ k := Int.pow_pos (by decide)
    have hnn : 0 ≤ a0 / 128 ^ k := Int.ediv_nonneg h0 (by omega)
    have hlt : a0 / 128 ^ k ≤ a0 := Int.ediv_le_self _ h0
    by_cases hc : a0 / 128 ^ k < 128
    · have hc' : decide (128 ≤ a0 / 128 ^ k) = false := by simp; omega
      have HR2 := Aside0.mk (HR.out.symm.trans (by rw [putF_pre a0 h0 k 9 HJ.out hc hk]))
      have hsl : ∀ W, (Instr.sliceAt 176 (.pointer (some ⟨w.heap.size, 0, none⟩)) none (some (.int .i64 ((k : Int) + 1))) (some (.int .i64 ((k : Int) + 1)))).run Tryz.prog W = .ok (.slice (some ⟨w.heap.size, 0, none⟩) (k + 1) (k + 1)) W := by
        intro W
        rw [run_sliceAt_array_hm W 176 _ (by kernel_rfl) .i64 .i64 _ _ (by omega) (by omega) (by rw [show Tryz.prog.arrayLen 176 = 10 by kernel_rfl]; omega)]
        have e1 : ((k : Int) + 1).toNat = k + 1 := by omega
        simp only [slicedAt, e1, show Tryz.prog.elem 176 = 5 by kernel_rfl]
        have e2 : (sizeOf 5).run Tryz.prog W = .ok 1 W := by kernel_rfl
        rw [e2]
        simp [Result.andThen, Addr.add]
      have hcv := run_convert_bytes_arg (P := Tryz.prog) (w.alloc (.cells ((put_arr a0 k).setIfInBounds k (.int .u8 (a0 / 128 ^ k))) 176)) 129 5 Tryz.underlying129 Tryz.underlying5 w.heap.size 0 (k + 1) (k + 1) (put_pre a0 k ++ [a0 / 128 ^ k]) (by simp [put_pre_length])
        (fun i hi => by
          have := put_last a0 k hk (a0 / 128 ^ k) i hi
          simpa [World.cell?, World.alloc, -World.alloc_eq] using this) 9 Tryz.underlying9
      go_wp2
      go_ret
      exact ⟨by rw [HR2.out]; rfl, (Below.refl _ _).alloc (Nat.le_refl _) _⟩
    · have hc' : decide (128 ≤ a0 / 128 ^ k) = true := by simp; omega
      have hk8 : k ≤ 8 := by
        rcases Nat.lt_or_ge k 9 with h | h
        · omega
        · have e9 : k = 9 := by omega
          subst e9
          have : (128 : Int) ^ 9 = 9223372036854775808 := by decide
          rw [this] at hc
          omega
      have HA := Aside0.mk (put_arr_set a0 k hk8 h0)
      go_wp2
      refine ⟨⟨k + 1, by omega, by go_num, ?_, ?_, ?_⟩, ?_⟩
      · rw [ediv_twice _ _ _ (by omega), Int.pow_succ]
      · intro j hj
        rcases Nat.lt_or_ge j k with h | h
        · exact HJ.out j h
        · obtain rfl : j = k := by omega
          omega
      · rw [HA.out]
      · simp [intOf]; omega

/-! ### varint_Text: function 94 -/
theorem putF_length : ∀ (k : Nat) (n : Int), (putF k n).length ≤ k + 1
  | 0, _ => by simp [putF]
  | k + 1, n => by
    rw [putF]
    split
    · simp
    · have := putF_length k (n / 128)
      simp
      omega
theorem strOfNums_size (l : List Int) : (strOfNums l).size = l.length := by simp [strOfNums, ByteArray.size]
def varint_Text.f (a0 : ByteArray) : Option ByteArray := if a0.size ≤ 4611686018427387904 then some (strOfNums (putF 9 a0.size) ++ a0) else none
set_option maxHeartbeats 400000 in
theorem varint_Text.calls (a0 : ByteArray) (r : ByteArray) (w : World) (h : varint_Text.f a0 = some r) :
    Calls Tryz.prog 94 #[.string a0] w fun e w' => e = .returned (.string r) ∧ Below w.heap.size w w' := by
  unfold varint_Text.f at h
  by_cases hz : a0.size ≤ 4611686018427387904
  case neg => rw [if_neg hz] at h; exact absurd h (by simp)
  rw [if_pos hz] at h
  have HR := Aside0.mk (Option.some.inj h)
  clear h
  go_enter Tryz.func94, Tryz.ntmps94
  go_wp2_with fail
  refine (varint_Put.calls (a0.size : Int) (strOfNums (putF 9 a0.size)) _ (by unfold varint_Put.f; rw [if_pos (by omega)])).mono ?_
  rintro e w1 ⟨rfl, hb⟩
  have hs := putF_length 9 (a0.size : Int)
  rw [← strOfNums_size] at hs
  have hd : decide ((strOfNums (putF 9 (a0.size : Int))).size + a0.size ≤ 9223372036854775807) = true := by simp; omega
  go_wp2
  go_ret
  exact ⟨by rw [HR.out]; rfl, hb⟩

/-! ### record_Right: function 141 -/
def record_Right.j0 : Nat → Bool → Int → ByteArray → ByteArray → Bool → Option (Bool)
 | 0,_,_,_,_,_ => none
 | k + 1,x3,x129000,x129001,x129002,x129003 => if x3 = true then (some false) else (if x129003 = true then (some (x129002.toList == ([] : List UInt8) && (x129003))) else (some true))
def record_Right.f (k : Nat) (a0_0 : Int) (a0_1 : ByteArray) (a0_2 : ByteArray) (a0_3 : Bool) : Option (Bool):=if a0_0 < 1 then (record_Right.j0 k true a0_0 a0_1 a0_2 a0_3) else (if a0_0 > 1099511627776 then (record_Right.j0 k true a0_0 a0_1 a0_2 a0_3) else (if a0_1.toList = ([] : List UInt8) then (record_Right.j0 k true a0_0 a0_1 a0_2 a0_3) else (if (a0_1.size : Int) > 40 then (record_Right.j0 k true a0_0 a0_1 a0_2 a0_3) else (record_Right.j0 k (decide ((a0_2.size : Int) > 300)) a0_0 a0_1 a0_2 a0_3))))
theorem record_Right.mono_l : ∀ k,(∀ y0 y1 y2 y3 y4,LeO (record_Right.j0 k y0 y1 y2 y3 y4) (record_Right.j0 (k + 1) y0 y1 y2 y3 y4))
 | 0 => fun _ _ _ _ _ r h => by simp [record_Right.j0] at h
 | k + 1 => by
  have ih0:=record_Right.mono_l k
  ·intro y0 y1 y2 y3 y4
   unfold record_Right.j0
   repeat' first
   | (with_reducible exact ih0 _ _ _ _ _)
   | (with_reducible exact LeO.refl _)
   | (with_reducible exact LeO.none _)
   | (with_reducible refine LeO.ite ?_ ?_)
   | (with_reducible refine LeO.bind ?_ (fun _ => ?_))
   | exact ih0 _ _ _ _ _
   | exact LeO.none _
   | refine LeO.ite ?_ ?_
   | refine LeO.bind ?_ (fun _ => ?_)
theorem record_Right.mono : ∀ a0 a1 a2 a3 k,LeO (record_Right.f k a0 a1 a2 a3) (record_Right.f (k + 1) a0 a1 a2 a3):=by
 intro a0 a1 a2 a3 k
 have ih0:=record_Right.mono_l k
 unfold record_Right.f
 repeat' first
   | (with_reducible exact ih0 _ _ _ _ _)
   | (with_reducible exact LeO.refl _)
   | (with_reducible exact LeO.none _)
   | (with_reducible refine LeO.ite ?_ ?_)
   | (with_reducible refine LeO.bind ?_ (fun _ => ?_))
   | exact ih0 _ _ _ _ _
   | exact LeO.none _
   | refine LeO.ite ?_ ?_
   | refine LeO.bind ?_ (fun _ => ?_)
set_option maxHeartbeats 8000000 in
set_option maxRecDepth 100000 in
theorem record_Right.calls (k : Nat) (a0_0 : Int) (a0_1 : ByteArray) (a0_2 : ByteArray) (a0_3 : Bool) (r : Bool) (w : World) (h : record_Right.f k a0_0 a0_1 a0_2 a0_3 = some r) :
  Calls Tryz.prog 141 #[.agg #[.int .u64 a0_0,.string a0_1,.string a0_2,.bool a0_3]] w fun e w' => e = .returned (.bool r) ∧ Below w.heap.size w w' := by
 have hu50:=Tryz.underlying50
 have HB:=Aside0.mk (Below.refl w.heap.size w)
 have H : (if a0_0 < 1 then (record_Right.j0 k true a0_0 a0_1 a0_2 a0_3) else (if a0_0 > 1099511627776 then (record_Right.j0 k true a0_0 a0_1 a0_2 a0_3) else (if a0_1.toList = ([] : List UInt8) then (record_Right.j0 k true a0_0 a0_1 a0_2 a0_3) else (if (a0_1.size : Int) > 40 then (record_Right.j0 k true a0_0 a0_1 a0_2 a0_3) else (record_Right.j0 k (decide ((a0_2.size : Int) > 300)) a0_0 a0_1 a0_2 a0_3))))) = some r:=h
 clear h
 have HC2:=Aside0.mk H
 clear H
 go_enter Tryz.func141,Tryz.ntmps141
 go_upto_region 1 with (first | ((with_reducible refine gate_dst (N:=1) rfl ?_);(try (refine gate_guard (by rfl) ?_;dsimp only));refine box_event ?hg (N:=1) ?hd (cs := #[.int .u64 a0_0,.string a0_1,.string a0_2,.bool a0_3]) (t:=50) ?hr ?_;(case hd => rfl);(case hg => rfl);(case hr => first | (go_simp;done) | (go_simp;rfl));intro gb128 hg w3 hbox hb;have n0_:=Aside0.mk (below_step (by repeat (first | (with_reducible first | exact HB.out | apply below_alloc | apply pw_below_drewN | apply below_drew1) | exact HB.out)) hb);have n1_:=Aside0.mk (hbox);have n2_:=Aside0.mk ((by rw [hg];exact (below_size (by repeat (first | (with_reducible first | exact HB.out | apply below_alloc | apply pw_below_drewN | apply below_drew1) | exact HB.out))) : w.heap.size ≤ gb128));have n3_:=Aside0.mk ((by rw [hg];exact (below_size (by repeat (first | (with_reducible first | exact HB.out | apply below_alloc | apply pw_below_drewN | apply below_drew1) | exact HB.out))) : w.heap.size ≤ gb128));clear HB;have HB:=n0_;have BK128:=n1_;have GW128:=n2_;have GE128:=n3_;clear n0_ n1_ n2_ n3_;clear hb hbox hg))
 (try simp only [Act.put,List.setIfInBounds_toArray,List.set_cons_zero,List.set_cons_succ])
 go_cut [3] (fun v3 wc => ∃ (kq : Nat) (x3_1 : Bool),v3 = .bool x3_1 ∧ Aside0 (record_Right.j0 kq x3_1 a0_0 a0_1 a0_2 a0_3 = some r) ∧ Aside0 (kq ≤ k) ∧ Aside0 (wc.heap[gb128]? = some (.cells #[.int .u64 a0_0,.string a0_1,.string a0_2,.bool a0_3] 50 (0,0))) ∧ Aside0 (Below w.heap.size w wc))
 case first =>
  have H:=HC2.out
  clear HC2
  by_cases c4 : a0_0 < 1
  ·rw [if_pos c4] at H
   have c4b0 : decide (a0_0 < 1) = true:=decide_eq_true c4
   clear c4
   (first | rw [c4b0] | (simp only [i64_w,i32_w];rw [c4b0]) | skip)
   have H' := Aside0.mk H
   clear H
   have hcz5_0 : w3.cell? ⟨gb128,0,none⟩ = some (.int .u64 a0_0):=(blk_cell BK128.out 0).trans rfl
   have hcz5_1 : w3.cell? ⟨gb128,1,none⟩ = some (.string a0_1):=(blk_cell BK128.out 1).trans rfl
   have hcz5_2 : w3.cell? ⟨gb128,2,none⟩ = some (.string a0_2):=(blk_cell BK128.out 2).trans rfl
   have hcz5_3 : w3.cell? ⟨gb128,3,none⟩ = some (.bool a0_3):=(blk_cell BK128.out 3).trans rfl
   have hfz5_0:=blk_frozen BK128.out 0
   have hfz5_1:=blk_frozen BK128.out 1
   have hfz5_2:=blk_frozen BK128.out 2
   have hfz5_3:=blk_frozen BK128.out 3
   go_wp2
   go_meet
   case rel => exact ⟨_,(true),(by first | rfl | (simp;done) | (simp [*];done)),H',⟨by first | omega | exact Nat.le_refl _⟩,⟨by (with_reducible repeat (first | refine blk_drewN ?_ _ | refine blk_drew ?_ | refine blk_alloc ?_ _));exact BK128.out⟩,⟨by repeat (first | (with_reducible first | exact HB.out | apply below_alloc | apply pw_below_drewN | apply below_drew1 | refine below_set ?_ GE128.out) | exact HB.out)⟩⟩
  ·rw [if_neg c4] at H
   have c4b0 : decide (a0_0 < 1) = false:=decide_eq_false c4
   clear c4
   (first | rw [c4b0] | (simp only [i64_w,i32_w];rw [c4b0]) | skip)
   by_cases c6 : a0_0 > 1099511627776
   ·rw [if_pos c6] at H
    have c6b0 : decide (1099511627776 < a0_0) = true:=decide_eq_true c6
    clear c6
    have H' := Aside0.mk H
    clear H
    have hcz7_0 : w3.cell? ⟨gb128,0,none⟩ = some (.int .u64 a0_0):=(blk_cell BK128.out 0).trans rfl
    have hcz7_1 : w3.cell? ⟨gb128,1,none⟩ = some (.string a0_1):=(blk_cell BK128.out 1).trans rfl
    have hcz7_2 : w3.cell? ⟨gb128,2,none⟩ = some (.string a0_2):=(blk_cell BK128.out 2).trans rfl
    have hcz7_3 : w3.cell? ⟨gb128,3,none⟩ = some (.bool a0_3):=(blk_cell BK128.out 3).trans rfl
    have hfz7_0:=blk_frozen BK128.out 0
    have hfz7_1:=blk_frozen BK128.out 1
    have hfz7_2:=blk_frozen BK128.out 2
    have hfz7_3:=blk_frozen BK128.out 3
    go_wp2
    go_meet
    case rel => exact ⟨_,(true),(by first | rfl | (simp;done) | (simp [*];done)),H',⟨by first | omega | exact Nat.le_refl _⟩,⟨by (with_reducible repeat (first | refine blk_drewN ?_ _ | refine blk_drew ?_ | refine blk_alloc ?_ _));exact BK128.out⟩,⟨by repeat (first | (with_reducible first | exact HB.out | apply below_alloc | apply pw_below_drewN | apply below_drew1 | refine below_set ?_ GE128.out) | exact HB.out)⟩⟩
   ·rw [if_neg c6] at H
    have c6b0 : decide (1099511627776 < a0_0) = false:=decide_eq_false c6
    clear c6
    by_cases c8 : a0_1.toList = ([] : List UInt8)
    ·rw [if_pos c8] at H
     have c8b0 : (a0_1.toList == ([] : List UInt8)) = true:=beq_iff_eq.mpr c8
     have c8b1 : (a0_1.toList != ([] : List UInt8)) = false:=bne_eq_false_iff_eq.mpr c8
     clear c8
     have H' := Aside0.mk H
     clear H
     have hcz9_0 : w3.cell? ⟨gb128,0,none⟩ = some (.int .u64 a0_0):=(blk_cell BK128.out 0).trans rfl
     have hcz9_1 : w3.cell? ⟨gb128,1,none⟩ = some (.string a0_1):=(blk_cell BK128.out 1).trans rfl
     have hcz9_2 : w3.cell? ⟨gb128,2,none⟩ = some (.string a0_2):=(blk_cell BK128.out 2).trans rfl
     have hcz9_3 : w3.cell? ⟨gb128,3,none⟩ = some (.bool a0_3):=(blk_cell BK128.out 3).trans rfl
     have hfz9_0:=blk_frozen BK128.out 0
     have hfz9_1:=blk_frozen BK128.out 1
     have hfz9_2:=blk_frozen BK128.out 2
     have hfz9_3:=blk_frozen BK128.out 3
     go_wp2
     go_meet
     case rel => exact ⟨_,(true),(by first | rfl | (simp;done) | (simp [*];done)),H',⟨by first | omega | exact Nat.le_refl _⟩,⟨by (with_reducible repeat (first | refine blk_drewN ?_ _ | refine blk_drew ?_ | refine blk_alloc ?_ _));exact BK128.out⟩,⟨by repeat (first | (with_reducible first | exact HB.out | apply below_alloc | apply pw_below_drewN | apply below_drew1 | refine below_set ?_ GE128.out) | exact HB.out)⟩⟩
    ·rw [if_neg c8] at H
     have c8b0 : (a0_1.toList == ([] : List UInt8)) = false:=beq_eq_false_iff_ne.mpr c8
     have c8b1 : (a0_1.toList != ([] : List UInt8)) = true:=bne_iff_ne.mpr c8
     by_cases c10 : (a0_1.size : Int) > 40
     ·rw [if_pos c10] at H
      have c10b0 : decide (40 < (a0_1.size : Int)) = true:=decide_eq_true c10
      have c10b1 : decide (40 < a0_1.size) = true:=decide_eq_true (by omega)
      clear c10
      have H' := Aside0.mk H
      clear H
      have hcz11_0 : w3.cell? ⟨gb128,0,none⟩ = some (.int .u64 a0_0):=(blk_cell BK128.out 0).trans rfl
      have hcz11_1 : w3.cell? ⟨gb128,1,none⟩ = some (.string a0_1):=(blk_cell BK128.out 1).trans rfl
      have hcz11_2 : w3.cell? ⟨gb128,2,none⟩ = some (.string a0_2):=(blk_cell BK128.out 2).trans rfl
      have hcz11_3 : w3.cell? ⟨gb128,3,none⟩ = some (.bool a0_3):=(blk_cell BK128.out 3).trans rfl
      have hfz11_0:=blk_frozen BK128.out 0
      have hfz11_1:=blk_frozen BK128.out 1
      have hfz11_2:=blk_frozen BK128.out 2
      have hfz11_3:=blk_frozen BK128.out 3
      go_wp2
      go_meet
      case rel => exact ⟨_,(true),(by first | rfl | (simp;done) | (simp [*];done)),H',⟨by first | omega | exact Nat.le_refl _⟩,⟨by (with_reducible repeat (first | refine blk_drewN ?_ _ | refine blk_drew ?_ | refine blk_alloc ?_ _));exact BK128.out⟩,⟨by repeat (first | (with_reducible first | exact HB.out | apply below_alloc | apply pw_below_drewN | apply below_drew1 | refine below_set ?_ GE128.out) | exact HB.out)⟩⟩
     ·rw [if_neg c10] at H
      have c10b0 : decide (40 < (a0_1.size : Int)) = false:=decide_eq_false c10
      have c10b1 : decide (40 < a0_1.size) = false:=decide_eq_false (by omega)
      clear c10
      have H' := Aside0.mk H
      clear H
      have hcz12_0 : w3.cell? ⟨gb128,0,none⟩ = some (.int .u64 a0_0):=(blk_cell BK128.out 0).trans rfl
      have hcz12_1 : w3.cell? ⟨gb128,1,none⟩ = some (.string a0_1):=(blk_cell BK128.out 1).trans rfl
      have hcz12_2 : w3.cell? ⟨gb128,2,none⟩ = some (.string a0_2):=(blk_cell BK128.out 2).trans rfl
      have hcz12_3 : w3.cell? ⟨gb128,3,none⟩ = some (.bool a0_3):=(blk_cell BK128.out 3).trans rfl
      have hfz12_0:=blk_frozen BK128.out 0
      have hfz12_1:=blk_frozen BK128.out 1
      have hfz12_2:=blk_frozen BK128.out 2
      have hfz12_3:=blk_frozen BK128.out 3
      go_wp2
      go_meet
      case rel => exact ⟨_,(decide ((a0_2.size : Int) > 300)),(by first | rfl | (simp;done) | (simp [*];done)),H',⟨by first | omega | exact Nat.le_refl _⟩,⟨by (with_reducible repeat (first | refine blk_drewN ?_ _ | refine blk_drew ?_ | refine blk_alloc ?_ _));exact BK128.out⟩,⟨by repeat (first | (with_reducible first | exact HB.out | apply below_alloc | apply pw_below_drewN | apply below_drew1 | refine below_set ?_ GE128.out) | exact HB.out)⟩⟩
 case rest =>
  clear HC2
  try clear c1
  try clear p2
  try clear c4
  try clear c4b0
  try clear c6
  try clear c6b0
  try clear c8
  try clear c8b0
  try clear c8b1
  try clear c10
  try clear c10b0
  try clear c10b1
  try clear hcz11_0
  try clear hcz11_1
  try clear hcz11_2
  try clear hcz11_3
  try clear hcz12_0
  try clear hcz12_1
  try clear hcz12_2
  try clear hcz12_3
  try clear hcz5_0
  try clear hcz5_1
  try clear hcz5_2
  try clear hcz5_3
  try clear hcz7_0
  try clear hcz7_1
  try clear hcz7_2
  try clear hcz7_3
  try clear hcz9_0
  try clear hcz9_1
  try clear hcz9_2
  try clear hcz9_3
  try clear hfz11_0
  try clear hfz11_1
  try clear hfz11_2
  try clear hfz11_3
  try clear hfz12_0
  try clear hfz12_1
  try clear hfz12_2
  try clear hfz12_3
  try clear hfz5_0
  try clear hfz5_1
  try clear hfz5_2
  try clear hfz5_3
  try clear hfz7_0
  try clear hfz7_1
  try clear hfz7_2
  try clear hfz7_3
  try clear hfz9_0
  try clear hfz9_1
  try clear hfz9_2
  try clear hfz9_3
  obtain ⟨kq,x3_1,rfl,HA,HJ1,BK128,HB⟩:=hcut
  cases kq with
  | zero => exact absurd HA.out (by simp [record_Right.j0])
  | succ kj1 =>
   have H:=HA.out
   clear HA
   simp only [record_Right.j0] at H
   by_cases c13 : x3_1 = true
   ·subst c13
    have H1 : (some false) = some r:=by rw [if_pos rfl] at H;exact H
    clear H
    have H:=H1
    clear H1
    obtain rfl:=Option.some.inj H
    go_wp2
    go_ret
    exact ⟨by first | rfl | (simp [errW_none,errW_some] <;> rfl) | (simp [*,errW_none,errW_some] <;> rfl) | (simp [errW_none,errW_some];exact isEmpty_bne _),by repeat (first | (with_reducible first | exact HB.out | apply below_alloc | apply pw_below_drewN | apply below_drew1 | refine below_set ?_ GE128.out) | exact HB.out)⟩
   ·replace c13:=Bool.eq_false_iff.mpr c13
    subst c13
    have H1 : (if a0_3 = true then (some (a0_2.toList == ([] : List UInt8) && (a0_3))) else (some true)) = some r:=by rw [if_neg (show ¬ (false = true) by decide)] at H;exact H
    clear H
    have H:=H1
    clear H1
    by_cases c14 : a0_3 = true
    ·subst c14
     have H1 : (some (a0_2.toList == ([] : List UInt8) && (true))) = some r:=by rw [if_pos rfl] at H;exact H
     clear H
     have H:=H1
     clear H1
     obtain rfl:=Option.some.inj H
     have hcz15_0 : wc.cell? ⟨gb128,0,none⟩ = some (.int .u64 a0_0):=(blk_cell BK128.out 0).trans rfl
     have hcz15_1 : wc.cell? ⟨gb128,1,none⟩ = some (.string a0_1):=(blk_cell BK128.out 1).trans rfl
     have hcz15_2 : wc.cell? ⟨gb128,2,none⟩ = some (.string a0_2):=(blk_cell BK128.out 2).trans rfl
     have hcz15_3 : wc.cell? ⟨gb128,3,none⟩ = some (.bool true):=(blk_cell BK128.out 3).trans rfl
     have hfz15_0:=blk_frozen BK128.out 0
     have hfz15_1:=blk_frozen BK128.out 1
     have hfz15_2:=blk_frozen BK128.out 2
     have hfz15_3:=blk_frozen BK128.out 3
     go_wp2
     go_ret
     exact ⟨by first | rfl | (simp [errW_none,errW_some] <;> rfl) | (simp [*,errW_none,errW_some] <;> rfl) | (simp [errW_none,errW_some];exact isEmpty_bne _),by repeat (first | (with_reducible first | exact HB.out | apply below_alloc | apply pw_below_drewN | apply below_drew1 | refine below_set ?_ GE128.out) | exact HB.out)⟩
    ·replace c14:=Bool.eq_false_iff.mpr c14
     subst c14
     have H1 : (some true) = some r:=by rw [if_neg (show ¬ (false = true) by decide)] at H;exact H
     clear H
     have H:=H1
     clear H1
     obtain rfl:=Option.some.inj H
     have hcz16_0 : wc.cell? ⟨gb128,0,none⟩ = some (.int .u64 a0_0):=(blk_cell BK128.out 0).trans rfl
     have hcz16_1 : wc.cell? ⟨gb128,1,none⟩ = some (.string a0_1):=(blk_cell BK128.out 1).trans rfl
     have hcz16_2 : wc.cell? ⟨gb128,2,none⟩ = some (.string a0_2):=(blk_cell BK128.out 2).trans rfl
     have hcz16_3 : wc.cell? ⟨gb128,3,none⟩ = some (.bool false):=(blk_cell BK128.out 3).trans rfl
     have hfz16_0:=blk_frozen BK128.out 0
     have hfz16_1:=blk_frozen BK128.out 1
     have hfz16_2:=blk_frozen BK128.out 2
     have hfz16_3:=blk_frozen BK128.out 3
     go_wp2
     go_ret
     exact ⟨by first | rfl | (simp [errW_none,errW_some] <;> rfl) | (simp [*,errW_none,errW_some] <;> rfl) | (simp [errW_none,errW_some];exact isEmpty_bne _),by repeat (first | (with_reducible first | exact HB.out | apply below_alloc | apply pw_below_drewN | apply below_drew1 | refine below_set ?_ GE128.out) | exact HB.out)⟩

end Go.Proofs.YthndpknocofioaaGreatDoor.Print
