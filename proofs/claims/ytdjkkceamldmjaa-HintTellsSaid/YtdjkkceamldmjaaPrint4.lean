/- Written by a program of mine (give.py, over the kit's print) out of the translation: contracts of the Go functions. Lean checks it. -/
import Derived.Test.YtdjkkceamldmjaaPrint0
namespace Go.Proofs.Ytdjkkceamldmjaa.Print
open Go.RowKit Go.Proofs.YtdjkkceamldmjaaW.PrintWords Go.Proofs.YtdjkkceamldmjaaW.PrintLast Go.Proofs.YtdjkkceamldmjaaW.PrintMore
attribute [local go_sem] max2_int min2_int max_two min_two max_three min_three max_four min_four   -- for this text's walks alone
set_option linter.unusedVariables false
set_option linter.unusedSimpArgs false

/-! ### varint_Put: function 22 -/
theorem run_sliceAt_array_hm {P : Program} (w : World) (t : TypeId) (a : Addr) (ht : P.underlying t = some (.array (P.arrayLen t) (P.elem t))) (kh km : IntKind) (h m : Int) (h0 : 0 ≤ h) (h2 : h ≤ m) (h3 : m ≤ P.arrayLen t) :
    (Instr.sliceAt t (.pointer (some a)) none (some (.int kh h)) (some (.int km m))).run P w =
      ((sizeOf (P.elem t)).run P w).andThen fun s w => .ok (slicedAt a 0 h.toNat m.toNat s) w := by
  have em : (m.toNat : Int) = m := Int.toNat_of_nonneg (by omega)
  simp [Instr.sliceAt, Instr.sureAddr, slicedAt, run_underlying ht, Instr.sliceBounds, run_sliceBound, sliced, *, em, (by omega : 0 ≤ h), (by omega : 0 ≤ m)]
theorem ediv_twice (a b c : Int) (h : 0 ≤ b) : a / b / c = a / (b * c) := Int.ediv_ediv_of_nonneg h
/-- The bytes of a number, as Put lays them: 'k' more may follow. -/
def putF : Nat → Int → List Int
  | 0, n => [n]
  | k + 1, n => if n < 128 then [n] else (n % 128 + 128) :: putF k (n / 128)
def varint_Put.f (a0 : Int) : Option ByteArray := if 0 ≤ a0 ∧ a0 < 18446744073709551616 then some (strOfNums (putF 9 a0)) else none
def put_pre (n : Int) (k : Nat) : List Int := (List.range k).map fun j => n / 128 ^ j % 128 + 128
def put_cells (n : Int) (k : Nat) : List Int := put_pre n k ++ List.replicate (10 - k) 0
def put_arr (n : Int) (k : Nat) : Array Value := ((put_cells n k).map (Value.int .u8)).toArray
theorem put_pre_length (n : Int) (k : Nat) : (put_pre n k).length = k := by simp [put_pre]
theorem put_arr_at (n : Int) (k : Nat) (h : k ≤ 9) : (put_arr n k)[k]? = some (.int .u8 0) := by
  simp [put_arr, put_cells, put_pre, List.getElem?_append, List.getElem?_replicate]
  omega
theorem put_or (x : Int) (h : 0 ≤ x) : Go.bits .or .u8 (x % 256) 128 = x % 128 + 128 := by
  have e : ∀ a : Nat, a < 256 → a ||| 128 = a % 128 + 128 := by decide +kernel
  rw [u8_or _ _ (by omega) (by omega) (by omega) (by omega)]
  have h2 := e (x % 256).toNat (by omega)
  have h3 : (128 : Int).toNat = 128 := rfl
  rw [h3, h2]; omega
theorem put_arr_set (n : Int) (k : Nat) (h : k ≤ 8) (hn : 0 ≤ n) : (put_arr n k).setIfInBounds k (.int .u8 (Go.bits .or .u8 (n / 128 ^ k % 256) 128)) = put_arr n (k + 1) := by
  have hp : (0 : Int) < 128 ^ k := Int.pow_pos (by decide)
  rw [put_or _ (Int.ediv_nonneg hn (by omega))]
  apply Array.ext_getElem?
  intro i
  simp only [put_arr, put_cells, put_pre, Array.getElem?_setIfInBounds, List.getElem?_toArray, List.size_toArray, List.length_map, List.length_append, List.length_range, List.length_replicate, List.getElem?_map, List.getElem?_append, List.getElem?_replicate]
  by_cases h1 : k = i
  · subst h1; simp [show k < 10 by omega]; omega
  · rcases Nat.lt_or_ge i k with h2 | h2
    · simp [h1, h2, show i < k + 1 by omega, List.getElem?_range, show i < k from h2]
    · simp [h1, show ¬ i < k by omega, show ¬ i < k + 1 by omega, List.getElem?_range, show ¬ i < k by omega]
      split <;> split <;> first | rfl | omega
theorem putF_pre (n : Int) (h0 : 0 ≤ n) : ∀ (k f : Nat), (∀ j, j < k → 128 ≤ n / 128 ^ j) → n / 128 ^ k < 128 → k ≤ f → putF f n = put_pre n k ++ [n / 128 ^ k]
  | 0, f, _, h, _ => by
    simp at h
    cases f <;> simp [putF, put_pre, h]
  | k + 1, 0, _, _, hf => absurd hf (by omega)
  | k + 1, f + 1, hj, h, hf => by
    have h1 := hj 0 (by omega)
    simp at h1
    have e : ∀ j, n / 128 / 128 ^ j = n / 128 ^ (j + 1) := fun j => by rw [ediv_twice _ _ _ (by decide), Int.pow_succ, Int.mul_comm]
    rw [putF, if_neg (by omega), putF_pre (n / 128) (by omega) k f (fun j h2 => by rw [e]; exact hj (j + 1) (by omega)) (by rw [e]; exact h) (by omega), e]
    simp [put_pre, List.range_succ_eq_map, List.map_map, Function.comp_def, e]
theorem put_last (n : Int) (k : Nat) (h : k ≤ 9) (v : Int) (i : Nat) (hi : i < k + 1) : ((put_arr n k).setIfInBounds k (.int .u8 v))[i]? = some (.int .u8 ((put_pre n k ++ [v]).getD i 0)) := by
  simp only [put_arr, put_cells, Array.getElem?_setIfInBounds, List.getElem?_toArray, List.size_toArray, List.length_map, List.length_append, put_pre_length, List.length_replicate, List.getElem?_map, List.getD_eq_getElem?_getD, List.getElem?_append]
  by_cases h1 : k = i
  · subst h1; simp [show k < 10 by omega]; omega
  · have h2 : i < k := by omega
    have h3 : i < (put_pre n k).length := by rw [put_pre_length]; exact h2
    simp [h1, h2, List.getElem?_eq_getElem h3]

set_option maxHeartbeats 800000 in
theorem varint_Put.calls (a0 : Int) (r : ByteArray) (w : World) (h : varint_Put.f a0 = some r) :
    Calls Try.prog 22 #[.int .u64 a0] w fun e w' => e = .returned (.string r) ∧ Below w.heap.size w w' := by
  unfold varint_Put.f at h
  by_cases hb : 0 ≤ a0 ∧ a0 < 18446744073709551616
  case neg => rw [if_neg hb] at h; exact absurd h (by simp)
  rw [if_pos hb] at h
  obtain ⟨h0, h1⟩ := hb
  have HR := Aside0.mk (Option.some.inj h)
  clear h
  go_enter Try.func22, Try.ntmps22
  go_wp2
  go_loopw [0, 4] (fun n i wr => ∃ k : Nat, k ≤ 9 ∧ i = .int .i64 k ∧ n = .int .u64 (a0 / 128 ^ k) ∧ (∀ j, j < k → 128 ≤ a0 / 128 ^ j) ∧ wr = w.alloc (.cells (put_arr a0 k) 81)) (fun _ i _ => 10 - (intOf i).toNat)
  case atStart => exact ⟨0, by omega, rfl, by simp, by omega, rfl⟩
  case round =>
    obtain ⟨k, hk, rfl, rfl, hj, rfl⟩ := hrel
    have hck := put_arr_at a0 k hk
    have HJ := Aside0.mk hj
    clear hj
    have hp : (0 : Int) < 128 ^ k := Int.pow_pos (by decide)
    have hnn : 0 ≤ a0 / 128 ^ k := Int.ediv_nonneg h0 (by omega)
    have hlt : a0 / 128 ^ k ≤ a0 := Int.ediv_le_self _ h0
    by_cases hc : a0 / 128 ^ k < 128
    · have hc' : decide (128 ≤ a0 / 128 ^ k) = false := by simp; omega
      have HR2 := Aside0.mk (HR.out.symm.trans (by rw [putF_pre a0 h0 k 9 HJ.out hc hk]))
      have hsl : ∀ W, (Instr.sliceAt 81 (.pointer (some ⟨w.heap.size, 0, none⟩)) none (some (.int .i64 ((k : Int) + 1))) (some (.int .i64 ((k : Int) + 1)))).run Try.prog W = .ok (.slice (some ⟨w.heap.size, 0, none⟩) (k + 1) (k + 1)) W := by
        intro W
        rw [run_sliceAt_array_hm W 81 _ (by kernel_rfl) .i64 .i64 _ _ (by omega) (by omega) (by rw [show Try.prog.arrayLen 81 = 10 by kernel_rfl]; omega)]
        have e1 : ((k : Int) + 1).toNat = k + 1 := by omega
        simp only [slicedAt, e1, show Try.prog.elem 81 = 5 by kernel_rfl]
        have e2 : (sizeOf 5).run Try.prog W = .ok 1 W := by kernel_rfl
        rw [e2]
        simp [Result.andThen, Addr.add]
      have hcv := run_convert_bytes_arg (P := Try.prog) (w.alloc (.cells ((put_arr a0 k).setIfInBounds k (.int .u8 (a0 / 128 ^ k))) 81)) 82 5 Try.underlying82 Try.underlying5 w.heap.size 0 (k + 1) (k + 1) (put_pre a0 k ++ [a0 / 128 ^ k]) (by simp [put_pre_length])
        (fun i hi => by
          have := put_last a0 k hk (a0 / 128 ^ k) i hi
          simpa [World.cell?, World.alloc, -World.alloc_eq] using this) 9 Try.underlying9
      go_wp2
      go_ret
      exact ⟨by rw [HR2.out]; rfl, (Below.refl _ _).alloc (Nat.le_refl _) _⟩
    · have hc' : decide (128 ≤ a0 / 128 ^ k) = true := by simp; omega
      have hk8 : k ≤ 8 := by
        rcases Nat.lt_or_ge k 9 with h | h
        · omega
        · have e9 : k = 9 := by omega
          subst e9
          have : (128 : Int) ^ 9 = 9223372036854775808 := by decide
          rw [this] at hc
          omega
      have HA := Aside0.mk (put_arr_set a0 k hk8 h0)
      go_wp2
      refine ⟨⟨k + 1, by omega, by go_num, ?_, ?_, ?_⟩, ?_⟩
      · rw [ediv_twice _ _ _ (by omega), Int.pow_succ]
      · intro j hj
        rcases Nat.lt_or_ge j k with h | h
        · exact HJ.out j h
        · obtain rfl : j = k := by omega
          omega
      · rw [HA.out]
      · simp [intOf]; omega

/-! ### hint_right: function 23 -/
theorem hint_within.calls (n a b : Int) (r : Bool) (w : World) (hr : (decide (a ≤ n) && decide (n ≤ b)) = r) :
    Calls Try.prog 49 #[.int .i64 n, .int .i64 a, .int .i64 b] w fun e w' => e = .returned (.bool r) ∧ w' = w := by
  by_cases h : a ≤ n
  · have h0 := eq_true h
    have h1 : decide (a ≤ n) = true := decide_eq_true h
    rw [h1, Bool.true_and] at hr
    have HR := Aside0.mk hr
    clear hr
    go_enter Try.func49, Try.ntmps49
    go_wp2
    go_ret
    exact ⟨by rw [← HR.out]; rfl, rfl⟩
  · have h0 := eq_false h
    have h1 : decide (a ≤ n) = false := decide_eq_false h
    rw [h1, Bool.false_and] at hr
    have HR := Aside0.mk hr
    clear hr
    go_enter Try.func49, Try.ntmps49
    go_wp2
    go_ret
    exact ⟨by rw [← HR.out]; rfl, rfl⟩
def hint_right.f (a0_0 : ByteArray) (a0_1 a0_2 a0_3 : Int) (a0_4 : Bool) : Option Bool :=
  some ((decide (1 ≤ (a0_0.size : Int)) && decide ((a0_0.size : Int) ≤ 40)) && ((decide (0 ≤ a0_1) && decide (a0_1 ≤ 1048576)) && ((decide (1 ≤ a0_2) && decide (a0_2 ≤ 400)) && (decide (1 ≤ a0_3) && decide (a0_3 ≤ 1099511627776)))))
set_option maxHeartbeats 1600000 in
set_option maxRecDepth 100000 in
theorem hint_right.calls (a0_0 : ByteArray) (a0_1 a0_2 a0_3 : Int) (a0_4 : Bool) (r : Bool) (w : World) (h : hint_right.f a0_0 a0_1 a0_2 a0_3 a0_4 = some r) :
    Calls Try.prog 23 #[.agg #[.string a0_0, .int .i64 a0_1, .int .i64 a0_2, .int .u64 a0_3, .bool a0_4]] w fun e w' => e = .returned (.bool r) ∧ Below w.heap.size w w' := by
  have hr := Option.some.inj h
  clear h
  generalize e1 : (decide (1 ≤ (a0_0.size : Int)) && decide ((a0_0.size : Int) ≤ 40)) = b1 at hr
  generalize e2 : (decide (0 ≤ a0_1) && decide (a0_1 ≤ 1048576)) = b2 at hr
  generalize e3 : (decide (1 ≤ a0_2) && decide (a0_2 ≤ 400)) = b3 at hr
  have H1 := Aside0.mk e1
  have H2 := Aside0.mk e2
  have H3 := Aside0.mk e3
  have HR := Aside0.mk hr
  have HB := Aside0.mk ((Below.refl w.heap.size w).alloc (Nat.le_refl _) (.cells #[.string a0_0, .int .i64 a0_1, .int .i64 a0_2, .int .u64 a0_3, .bool a0_4] 39))
  clear e1 e2 e3 hr
  go_enter Try.func23, Try.ntmps23
  go_wp2_with fail
  refine (hint_within.calls _ 1 40 b1 _ H1.out).mono ?_
  rintro e w1 ⟨rfl, rfl⟩
  cases b1 with
  | false =>
    go_wp2_with fail
    go_ret
    exact ⟨by rw [← HR.out]; rfl, HB.out⟩
  | true =>
    go_wp2_with fail
    refine (hint_within.calls _ 0 1048576 b2 _ H2.out).mono ?_
    rintro e w1 ⟨rfl, rfl⟩
    cases b2 with
    | false =>
      go_wp2_with fail
      go_ret
      exact ⟨by rw [← HR.out]; rfl, HB.out⟩
    | true =>
      go_wp2_with fail
      refine (hint_within.calls _ 1 400 b3 _ H3.out).mono ?_
      rintro e w1 ⟨rfl, rfl⟩
      cases b3 with
      | false =>
        go_wp2_with fail
        go_ret
        exact ⟨by rw [← HR.out]; rfl, HB.out⟩
      | true =>
        by_cases h4 : 1 ≤ a0_3
        · have h4a := eq_true h4
          have h4b : decide (1 ≤ a0_3) = true := decide_eq_true h4
          have hr := HR.out
          rw [h4b] at hr
          clear HR
          have HR := Aside0.mk hr
          clear hr
          go_wp2_with fail
          go_ret
          exact ⟨by rw [← HR.out]; rfl, HB.out⟩
        · have h4a := eq_false h4
          have h4b : decide (1 ≤ a0_3) = false := decide_eq_false h4
          have hr := HR.out
          rw [h4b] at hr
          clear HR
          have HR := Aside0.mk hr
          clear hr
          go_wp2_with fail
          go_ret
          exact ⟨by rw [← HR.out]; rfl, HB.out⟩

/-! ### varint_Text: function 24 -/
theorem putF_length : ∀ (k : Nat) (n : Int), (putF k n).length ≤ k + 1
  | 0, _ => by simp [putF]
  | k + 1, n => by
    rw [putF]
    split
    · simp
    · have := putF_length k (n / 128)
      simp
      omega
theorem strOfNums_size (l : List Int) : (strOfNums l).size = l.length := by simp [strOfNums, ByteArray.size]
def varint_Text.f (a0 : ByteArray) : Option ByteArray := if a0.size ≤ 4611686018427387904 then some (strOfNums (putF 9 a0.size) ++ a0) else none
set_option maxHeartbeats 400000 in
theorem varint_Text.calls (a0 : ByteArray) (r : ByteArray) (w : World) (h : varint_Text.f a0 = some r) :
    Calls Try.prog 24 #[.string a0] w fun e w' => e = .returned (.string r) ∧ Below w.heap.size w w' := by
  unfold varint_Text.f at h
  by_cases hz : a0.size ≤ 4611686018427387904
  case neg => rw [if_neg hz] at h; exact absurd h (by simp)
  rw [if_pos hz] at h
  have HR := Aside0.mk (Option.some.inj h)
  clear h
  go_enter Try.func24, Try.ntmps24
  go_wp2_with fail
  refine (varint_Put.calls (a0.size : Int) (strOfNums (putF 9 a0.size)) _ (by unfold varint_Put.f; rw [if_pos (by omega)])).mono ?_
  rintro e w1 ⟨rfl, hb⟩
  have hs := putF_length 9 (a0.size : Int)
  rw [← strOfNums_size] at hs
  have hd : decide ((strOfNums (putF 9 (a0.size : Int))).size + a0.size ≤ 9223372036854775807) = true := by simp; omega
  go_wp2
  go_ret
  exact ⟨by rw [HR.out]; rfl, hb⟩

/-! ### hint_flag: function 25 -/
def hint_flag.f (a0 : Bool) : Option (Int):=if a0 = true then (some 1) else (some 0)
set_option maxHeartbeats 8000000 in
set_option maxRecDepth 100000 in
theorem hint_flag.calls (a0 : Bool) (r : Int) (w : World) (h : hint_flag.f a0 = some r) :
  Calls Try.prog 25 #[.bool a0] w fun e w' => e = .returned (.int .u64 r) ∧ Drawn0 w w' := by
 have H : (if a0 = true then (some 1) else (some 0)) = some r:=h
 clear h
 by_cases c2 : a0 = true
 ·subst c2
  have H1 : (some 1) = some r:=by rw [if_pos rfl] at H;exact H
  clear H
  have H:=H1
  clear H1
  obtain rfl:=Option.some.inj H
  go_enter Try.func25,Try.ntmps25
  go_wp2
  go_ret
  exact ⟨by first | rfl | (simp;done) | (simp [*];done),by repeat (first | exact Drawn0.refl _ | apply Drawn0.step)⟩
 ·replace c2:=Bool.eq_false_iff.mpr c2
  subst c2
  have H1 : (some 0) = some r:=by rw [if_neg (show ¬ (false = true) by decide)] at H;exact H
  clear H
  have H:=H1
  clear H1
  obtain rfl:=Option.some.inj H
  go_enter Try.func25,Try.ntmps25
  go_wp2
  go_ret
  exact ⟨by first | rfl | (simp;done) | (simp [*];done),by repeat (first | exact Drawn0.refl _ | apply Drawn0.step)⟩

-- NOT PRINTED: function 60 (crc_table)

/-! ### crc_More: function 57 -/
def zs256 : Array Value := (List.replicate 256 (Value.int .u32 0)).toArray
theorem zs256_zero (w : World) : (zeroValue 93).run Try.prog w = .ok (.agg zs256) w := by kernel_rfl
def crcStep (c : Int) : Int := Go.bits .xor .u32 (c / 2) (Go.bits .and .u32 2197175160 ((-(Go.bits .and .u32 c 1)) % 4294967296))
def iterI (f : Int → Int) : Nat → Int → Int
  | 0, x => x
  | n + 1, x => f (iterI f n x)
def crcOf (i : Nat) : Int := iterI crcStep 8 i
def tabL (k : Nat) : List Int := (List.range k).map crcOf ++ List.replicate (256 - k) 0
def tabA (k : Nat) : Array Value := ((tabL k).map (Value.int .u32)).toArray
theorem tabA_zero : tabA 0 = zs256 := by simp only [tabA, tabL, zs256, List.range_zero, List.map_nil, List.nil_append, Nat.sub_zero, List.map_replicate]
theorem tabA_at (k : Nat) (h : k < 256) : (tabA k)[k]? = some (.int .u32 0) := by
  simp [tabA, tabL, List.getElem?_append, List.getElem?_replicate]
  omega
theorem tabA_size (k : Nat) (h : k ≤ 256) : (tabA k).size = 256 := by simp [tabA, tabL]; omega
theorem tabA_set (k : Nat) (h : k < 256) : (tabA k).setIfInBounds k (.int .u32 (crcOf k)) = tabA (k + 1) := by
  apply Array.ext_getElem?
  intro i
  simp only [tabA, tabL, Array.getElem?_setIfInBounds, List.getElem?_toArray, List.size_toArray, List.length_map, List.length_append, List.length_range, List.length_replicate, List.getElem?_map, List.getElem?_append, List.getElem?_replicate]
  by_cases h1 : k = i
  · subst h1; simp; omega
  · rcases Nat.lt_or_ge i k with h2 | h2
    · simp [h1, h2, show i < k + 1 by omega, List.getElem?_range, show i < k from h2]
    · simp [h1, show ¬ i < k by omega, show ¬ i < k + 1 by omega, List.getElem?_range]
      split <;> split <;> first | rfl | omega
theorem tabA_one (k : Nat) : (tabA k).all (·.oneCell') = true := by
  rw [Array.all_eq_true_iff_forall_mem]
  intro v hv
  simp only [tabA, List.mem_toArray, List.mem_map] at hv
  obtain ⟨x, _, rfl⟩ := hv
  rfl
set_option maxHeartbeats 800000 in
set_option maxRecDepth 100000 in
theorem crc_table.calls (w : World) :
    Calls Try.prog 60 #[] w fun e w' => e = .returned (.agg (tabA 256)) ∧ Below w.heap.size w w' := by
  have hz := zs256_zero
  go_enter Try.func60, Try.ntmps60
  go_wp2
  go_loopw [4] (fun i wr => ∃ k : Nat, k ≤ 256 ∧ i = .int .i64 k ∧ wr = (w.alloc (.cells zs256 93)).alloc (.cells (tabA k) 93)) (fun i _ => 256 - (intOf i).toNat)
  case atStart => exact ⟨0, by omega, rfl, by rw [tabA_zero]⟩
  case round =>
    obtain ⟨k, hk, rfl, rfl⟩ := hrel
    by_cases hlt : k < 256
    · have hck := tabA_at k hlt
      go_wp2
      go_loop [9, 3] (fun j c => ∃ n : Nat, n ≤ 8 ∧ j = .int .i64 n ∧ c = .int .u32 (iterI crcStep n k)) (fun j _ => 8 - (intOf j).toNat)
      case atStart => exact ⟨0, by omega, rfl, rfl⟩
      case round =>
        obtain ⟨n, hn, rfl, rfl⟩ := hrel
        by_cases hlt2 : n < 8
        · go_wp2
          go_round
          case rel => exact ⟨n + 1, by omega, by go_num, rfl⟩
          case measure => simp [intOf]; omega
        · obtain rfl : n = 8 := by omega
          go_wp2
          refine ⟨⟨k + 1, by omega, by go_num, ?_⟩, ?_⟩
          · exact congrArg _ (congrArg (fun c => Obj.cells c 93) (tabA_set k hlt))
          · simp [intOf]; omega
    · obtain rfl : k = 256 := by omega
      have hg1 : ((w.alloc (.cells zs256 93)).alloc (.cells (tabA 256) 93)).heap[w.heap.size + 1]? = some (.cells (tabA 256) 93 (0, 0)) := by have := heap_alloc_new (w.alloc (.cells zs256 93)) (.cells (tabA 256) 93); rwa [World.size_alloc] at this
      have hg2 : ((w.alloc (.cells zs256 93)).alloc (.cells (tabA 256) 93)).heap[w.heap.size]? = some (.cells zs256 93 (0, 0)) := by simp [World.alloc, -World.alloc_eq, Array.getElem?_push]
      have hi : (Try.prog.info? 93).map (·.size) = some (tabA 256).size := by rw [tabA_size 256 (Nat.le_refl _)]; kernel_rfl
      have ho : zs256.size = (tabA 256).size := by rw [tabA_size 256 (Nat.le_refl _)]; rfl
      have h1 : (tabA 256).all (·.oneCell') = true := by
        rw [Array.all_eq_true_iff_forall_mem]
        intro v hv
        simp only [tabA, List.mem_toArray, List.mem_map] at hv
        obtain ⟨x, _, rfl⟩ := hv
        rfl
      have HB := Aside0.mk (below_setRow (B := w.heap.size) (g := w.heap.size) (((Below.refl _ _).alloc (Nat.le_refl _) (.cells zs256 93)).alloc (by simp) (.cells (tabA 256) 93)) (Nat.le_refl _) (tabA 256))
      have HG := Aside0.mk (setRow_heap _ _ _ (tabA 256) _ _ hg2)
      generalize hW : (w.alloc (.cells zs256 93)).alloc (.cells (tabA 256) 93) = W at hg1 hg2 HB HG ⊢
      clear hW
      go_wp2_with (first | (refine wpList_load_row rfl 93 _ rfl (w.heap.size + 1) rfl 93 (tabA 256) (0, 0) _ hg1 Try.underlying93 rfl hi ?_) | (refine wpList_store_row rfl 93 _ _ rfl w.heap.size (tabA 256) rfl rfl 93 zs256 hg2 hi ho h1 ?_))
      exact bodyPost_ret (v := .agg (tabA 256)) (results_cell_row rfl _ _ w.heap.size 93 (tabA 256) (0, 0) _ rfl HG.out Try.underlying93 rfl hi) rfl ⟨rfl, HB.out⟩

theorem xor8_range (a b : Int) (h0 : 0 ≤ a) (h1 : a < 256) (h2 : 0 ≤ b) (h3 : b < 256) : 0 ≤ Go.bits .xor .u8 a b ∧ Go.bits .xor .u8 a b < 256 := by
  rw [u8_xor a b h0 h1 h2 h3]
  have := Nat.xor_lt_two_pow (n := 8) (x := a.toNat) (y := b.toNat) (by omega) (by omega)
  omega
def crcNext (c : Int) (x : Int) : Int := Go.bits .xor .u32 (crcOf (Go.bits .xor .u8 (c % 256) x).toNat) (c / 256)
def moreL (l : List UInt8) (c : Int) : Int := l.foldl (fun c b => crcNext c (b.toNat : Int)) c
theorem below_bytesWorld {B : Nat} {w0 w : World} (h : Below B w0 w) (hB : B ≤ w.heap.size) (e : TypeId) (s : ByteArray) : Below B w0 (Lib.bytesWorld w e s) :=
  h.trans ⟨rfl, rfl, rfl, by rw [Lib.bytesWorld_size]; omega, fun k hk => Lib.bytesWorld_at_old w e s k (by omega)⟩
theorem moreL_take (b : ByteArray) (k : Nat) (h : k < b.size) (c : Int) : moreL (b.data.toList.take (k + 1)) c = crcNext (moreL (b.data.toList.take k) c) ((b.data.toList.getD k 0).toNat : Int) := by
  have hl : k < b.data.toList.length := by rw [← Lib.size_eq]; exact h
  rw [List.take_succ_eq_append_getElem hl, moreL, List.foldl_append, List.getD_eq_getElem?_getD, List.getElem?_eq_getElem hl]
  rfl
set_option maxHeartbeats 800000 in
set_option maxRecDepth 100000 in
theorem crc_More.calls0 (sum : Int) (b : ByteArray) (w : World) (hb : b.size ≤ 4611686018427387904) (r : Int) (hr : Go.bits .xor .u32 IntKind.u32.max (moreL b.data.toList (Go.bits .xor .u32 IntKind.u32.max sum)) = r) :
    Calls Try.prog 57 #[.int .u32 sum, .string b] w fun e w' => e = .returned (.int .u32 r) ∧ Below w.heap.size w w' := by
  have hz := zs256_zero
  have HR := Aside0.mk hr
  clear hr
  have hsg : IntKind.u32.signed = false := rfl
  go_enter Try.func57, Try.ntmps57
  go_wp2_with fail
  refine (crc_table.calls _).mono ?_
  rintro e w1 ⟨rfl, hb1⟩
  have hi : (Try.prog.info? 93).map (·.size) = some (tabA 256).size := by rw [tabA_size 256 (Nat.le_refl _)]; kernel_rfl
  have ho : zs256.size = (tabA 256).size := by rw [tabA_size 256 (Nat.le_refl _)]; rfl
  have h1 := tabA_one 256
  have hcv := fun W => Lib.run_convert_string_bytes (P := Try.prog) W 9 82 5 b Try.underlying9 Try.underlying82 Try.underlying5
  go_wp2_with (refine wpList_store_row rfl 93 _ _ rfl w1.heap.size (tabA 256) rfl rfl 93 zs256 (heap_alloc_new _ _) hi ho h1 ?_; rw [World.setRow_alloc_new]; clear hi ho h1)
  have hT : ∀ j : Nat, j < 256 → (Lib.bytesWorld (w1.alloc (.cells (tabA 256) 93)) 5 b).cell? ⟨w1.heap.size, j, none⟩ = some (.int .u32 (crcOf j)) := by
    intro j hj
    rw [Lib.bytesWorld_old _ _ _ _ (by simp), World.cell?, heap_alloc_new]
    simp [tabA, tabL, List.getElem?_append, hj]
  have hS : ∀ j : Nat, j < b.size → (Lib.bytesWorld (w1.alloc (.cells (tabA 256) 93)) 5 b).cell? ⟨w1.heap.size + 1, j, none⟩ = some (.int .u8 ((b.data.toList.getD j 0).toNat : Int)) := by
    intro j hj
    have := Lib.bytesWorld_cell (w1.alloc (.cells (tabA 256) 93)) 5 b j hj
    rwa [World.size_alloc] at this
  have HB := Aside0.mk (below_bytesWorld (hb1.alloc hb1.size (.cells (tabA 256) 93)) (by have := hb1.size; simp; omega) 5 b)
  generalize Lib.bytesWorld (w1.alloc (.cells (tabA 256) 93)) 5 b = W at hT hS HB ⊢
  generalize grownCap (w1.alloc (.cells (tabA 256) 93)) b.size 0 5 = cap
  have HT := Aside0.mk hT
  have HS := Aside0.mk hS
  clear hT hS hcv hz hb1
  go_loop [15, 6] (fun i c => ∃ k : Nat, k ≤ b.size ∧ i = .int .i64 k ∧ c = .int .u32 (moreL (b.data.toList.take k) (Go.bits .xor .u32 IntKind.u32.max sum))) (fun i _ => b.size - (intOf i).toNat)
  case atStart => exact ⟨0, by omega, rfl, rfl⟩
  case round =>
    obtain ⟨k, hk, rfl, rfl⟩ := hrel
    generalize hc : moreL (b.data.toList.take k) (Go.bits .xor .u32 IntKind.u32.max sum) = c
    have HC := Aside0.mk hc
    clear hc
    by_cases hlt : k < b.size
    · have hx := HS.out k hlt
      generalize hg : (((b.data.toList.getD k 0).toNat : Nat) : Int) = x at hx
      have HG := Aside0.mk hg
      have x0 : 0 ≤ x := by omega
      have x1 : x < 256 := by have := (b.data.toList.getD k 0).toNat_lt; omega
      clear hg
      have hi := xor8_range (c % 256) x (by omega) (by omega) x0 x1
      obtain ⟨i0, i1⟩ := hi
      have ht := HT.out (Go.bits .xor .u8 (c % 256) x).toNat (by omega)
      go_wp2
      go_round
      case rel => exact ⟨k + 1, by omega, by go_num, by rw [moreL_take b k hlt, HC.out, HG.out]; rfl⟩
      case measure => simp [intOf]; omega
    · go_wp2
      go_ret
      exact ⟨by rw [← HR.out, ← HC.out, List.take_of_length_le (by rw [← Lib.size_eq]; omega)]; rfl, HB.out⟩
/-- More, in words: the check is turned round, goes on byte by byte, and is turned round again. -/
def crc_More.f (a0 : Int) (a1 : ByteArray) : Option Int := if a1.size ≤ 4611686018427387904 then some (Go.bits .xor .u32 IntKind.u32.max (moreL a1.data.toList (Go.bits .xor .u32 IntKind.u32.max a0))) else none
theorem crc_More.calls (a0 : Int) (a1 : ByteArray) (r : Int) (w : World) (h : crc_More.f a0 a1 = some r) :
    Calls Try.prog 57 #[.int .u32 a0, .string a1] w fun e w' => e = .returned (.int .u32 r) ∧ Below w.heap.size w w' := by
  unfold crc_More.f at h
  by_cases hz : a1.size ≤ 4611686018427387904
  case neg => rw [if_neg hz] at h; exact absurd h (by simp)
  rw [if_pos hz] at h
  exact crc_More.calls0 a0 a1 w hz r (Option.some.inj h)

/-! ### crc_Sum: function 50 -/
def crc_Sum.f (a0 : ByteArray) : Option (Int):=(crc_More.f 0 a0).bind fun t101 => (some t101)
set_option maxHeartbeats 8000000 in
set_option maxRecDepth 100000 in
theorem crc_Sum.calls (a0 : ByteArray) (r : Int) (w : World) (h : crc_Sum.f a0 = some r) :
  Calls Try.prog 50 #[.string a0] w fun e w' => e = .returned (.int .u32 r) ∧ Below w.heap.size w w' := by
 have HB:=Aside0.mk (Below.refl w.heap.size w)
 have H : ((crc_More.f 0 a0).bind fun t101 => (some t101)) = some r:=h
 clear h
 replace H:=Option.bind_eq_some_iff.mp H
 obtain ⟨t101,A20,H⟩:=H
 replace H : (some t101) = some r:=H
 have A2:=Aside0.mk A20
 clear A20
 obtain rfl:=Option.some.inj H
 go_enter Try.func50,Try.ntmps50
 go_wp2_with (first | ((with_reducible refine gate_callee (f:=57) rfl ?_);refine goesL_ (some 4) rfl rfl Try.func57 (by kernel_rfl) rfl #[.int .u32 0,.string a0] rfl (by (try simp only [List.map_toArray,List.map_cons,List.map_nil]);first | done | rfl | (simp only [List.length_drop,List.length_take];rfl)) ?_;(with_reducible refine (crc_More.calls 0 a0 t101 _ A2.out).mono ?_);rintro e w3 ⟨rfl,hb⟩;refine ⟨_,rfl,?_⟩;have n0_:=Aside0.mk (below_step (by repeat (first | (with_reducible first | exact HB.out | apply below_alloc | apply pw_below_drewN | apply below_drew1) | exact HB.out)) hb);clear HB;have HB:=n0_;clear n0_;(try clear hb);(try clear hb2);(try clear hk);(try clear hi)))
 go_ret
 exact ⟨by first | rfl | (simp [errW_none,errW_some] <;> rfl) | (simp [*,errW_none,errW_some] <;> rfl) | (simp [errW_none,errW_some];exact isEmpty_bne _),by repeat (first | (with_reducible first | exact HB.out | apply below_alloc | apply pw_below_drewN | apply below_drew1) | exact HB.out)⟩

/-! ### crc_Seal: function 26 -/
def seal4 (n : Int) : List Int := [n % 256, n / 256 % 256, n / 65536 % 256, n / 16777216 % 256]
def crc_Seal.f (a0 : ByteArray) : Option ByteArray := (crc_Sum.f a0).bind fun n => if a0.size ≤ 4611686018427387904 then some (strOfNums (seal4 n) ++ a0) else none
set_option maxHeartbeats 800000 in
theorem crc_Seal.calls (a0 : ByteArray) (r : ByteArray) (w : World) (h : crc_Seal.f a0 = some r) :
    Calls Try.prog 26 #[.string a0] w fun e w' => e = .returned (.string r) ∧ Below w.heap.size w w' := by
  obtain ⟨n, h1, h2⟩ := Option.bind_eq_some_iff.mp h
  clear h
  by_cases hz : a0.size ≤ 4611686018427387904
  case neg => rw [if_neg hz] at h2; exact absurd h2 (by simp)
  rw [if_pos hz] at h2
  have HR := Aside0.mk (Option.some.inj h2)
  have H1 := Aside0.mk h1
  have hs : (strOfNums (seal4 n)).size = 4 := by simp [strOfNums, seal4, ByteArray.size]
  have hd : decide ((strOfNums (seal4 n)).size + a0.size ≤ 9223372036854775807) = true := by rw [hs]; simp; omega
  have hs4 : (strOfNums (seal4 n)).size ≤ 4 := by omega
  clear h1 h2 hs
  go_enter Try.func26, Try.ntmps26
  go_wp2_with fail
  refine (crc_Sum.calls a0 n _ H1.out).mono ?_
  rintro e w1 ⟨rfl, hb⟩
  go_wp2
  go_loopw [8] (fun i wr => (i = .int .i64 0 ∧ wr = w1.alloc (.cells #[.int .u8 0, .int .u8 0, .int .u8 0, .int .u8 0] 86)) ∨ (i = .int .i64 1 ∧ wr = w1.alloc (.cells #[.int .u8 (n % 256), .int .u8 0, .int .u8 0, .int .u8 0] 86))
    ∨ (i = .int .i64 2 ∧ wr = w1.alloc (.cells #[.int .u8 (n % 256), .int .u8 (n / 256 % 256), .int .u8 0, .int .u8 0] 86)) ∨ (i = .int .i64 3 ∧ wr = w1.alloc (.cells #[.int .u8 (n % 256), .int .u8 (n / 256 % 256), .int .u8 (n / 65536 % 256), .int .u8 0] 86))
    ∨ (i = .int .i64 4 ∧ wr = w1.alloc (.cells #[.int .u8 (n % 256), .int .u8 (n / 256 % 256), .int .u8 (n / 65536 % 256), .int .u8 (n / 16777216 % 256)] 86))) (fun i _ => 4 - (intOf i).toNat)
  case atStart => exact .inl ⟨rfl, rfl⟩
  case round =>
    rcases hrel with ⟨rfl, rfl⟩ | ⟨rfl, rfl⟩ | ⟨rfl, rfl⟩ | ⟨rfl, rfl⟩ | ⟨rfl, rfl⟩
    · go_wp2
      exact ⟨.inr (.inl ⟨rfl, by first | rfl | trivial⟩), by simp [intOf]⟩
    · go_wp2
      exact ⟨.inr (.inr (.inl ⟨rfl, by first | rfl | trivial⟩)), by simp [intOf]⟩
    · go_wp2
      exact ⟨.inr (.inr (.inr (.inl ⟨rfl, by first | rfl | trivial⟩))), by simp [intOf]⟩
    · go_wp2
      exact ⟨.inr (.inr (.inr (.inr ⟨rfl, by first | rfl | trivial⟩))), by simp [intOf]⟩
    · have hcv := run_convert_bytes_arg (P := Try.prog) (w1.alloc (.cells #[.int .u8 (n % 256), .int .u8 (n / 256 % 256), .int .u8 (n / 65536 % 256), .int .u8 (n / 16777216 % 256)] 86)) 82 5 Try.underlying82 Try.underlying5 w1.heap.size 0 4 4 (seal4 n) rfl
        (fun i hi => by
          rw [World.cell?, heap_alloc_new]
          match i, hi with
          | 0, _ => rfl
          | 1, _ => rfl
          | 2, _ => rfl
          | 3, _ => rfl) 9 Try.underlying9
      go_wp2
      go_ret
      exact ⟨by rw [HR.out]; rfl, hb.alloc hb.size _⟩

end Go.Proofs.Ytdjkkceamldmjaa.Print
