/- Written by a program of mine (ripref.py) out of the printed texts: the document's reading functions, their state read in the world of the call. Lean checks it. -/
import Derived.Test.YtcahpaoeailajaaProg
import Derived.Below
import Derived.Deep.Draws
import Derived.Deep.AppendLies
import Derived.Maps.AppendAt
import Derived.OwnWalk
import Derived.Laws.BytesArg
import Derived.Laws.MakeOwn
import Derived.Laws.OwnMore
import Derived.Deep.OwnRows
import Derived.Tactics
import Derived.Lib.ConvBytes
import Derived.Laws.Slices
import Derived.WalkKit
import Derived.KernelRfl
import Derived.RowKit3
import Derived.Deep.LoopGhost
import Derived.Deep.QuietTactic
import Derived.BigQuiet
import Derived.WideLaws
import Derived.Deep.DeepCutAuto
import Derived.Deep.CutBlock
import Derived.Deep.RegionHeld3
import Derived.Laws.Rows
import Derived.Lib.AppendStr
import Derived.ArgAppend
import Derived.Laws.IdiomCopy
import Derived.OrdersHeld
import Derived.Laws.BitsLemmas
import Derived.RowKit
import Derived.Laws.BitsAllLaws
import Derived.Laws.Bits64
import Derived.Laws.CopyOwn
import Derived.Deep.WholeRow
import Derived.Lib.Strings
import Derived.Test.YtcahpaoeailajaaWWords
import Derived.Test.YtcahpaoeailajaaWLast
import Derived.Test.YtcahpaoeailajaaWTab
import Derived.Test.YtcahpaoeailajaaWFour
import Derived.Test.YtcahpaoeailajaaWQPut
import Derived.Test.YtcahpaoeailajaaWApart
import Derived.Test.YtcahpaoeailajaaWArr
import Derived.Test.YtcahpaoeailajaaWZeros
import Derived.Test.YtcahpaoeailajaaWFoot
import Derived.Test.YtcahpaoeailajaaWKept
import Derived.Test.YtcahpaoeailajaaWShare
import Derived.Test.YtcahpaoeailajaaWN
import Derived.Test.YtcahpaoeailajaaWFootNe
import Derived.Test.YtcahpaoeailajaaWAt
import Derived.Test.YtcahpaoeailajaaWEqStruct
import Derived.Test.YtcahpaoeailajaaWRepsOne
import Derived.Test.YtcahpaoeailajaaWInv
import Derived.Test.YtcahpaoeailajaaWInvWords
import Derived.Test.YtcahpaoeailajaaWGuard
import Derived.Test.YtcahpaoeailajaaWNEv
import Derived.Test.YtcahpaoeailajaaWMore
namespace Go.Proofs.Ytcahpaoeailajaa.Ref
open Go.RowKit Go.Proofs.YtcahpaoeailajaaW.PrintWords Go.Proofs.YtcahpaoeailajaaW.PrintLast Go.Proofs.YtcahpaoeailajaaW.PrintMore
attribute [local go_sem] max2_int min2_int max_two min_two max_three min_three max_four min_four   -- for this text's walks alone
set_option linter.unusedVariables false
set_option linter.unusedSimpArgs false


attribute [local go_sem] max2_int min2_int max_two min_two max_three min_three max_four min_four   -- for this text's walks alone
set_option linter.unusedVariables false
set_option linter.unusedSimpArgs false



def errW : Option Int → Value
  | none => .nilIface
  | some c => .iface 0 (.int .i64 c)
theorem isEmpty_bne (l : List UInt8) : l.isEmpty = (!(l != [])) := by cases l <;> rfl
theorem errW_none : errW none = .nilIface := rfl
theorem errW_some (c : Int) : errW (some c) = .iface 0 (.int .i64 c) := rfl

-- the values' own types



/-! ### crc_More: function 15 -/
def zs256 : Array Value := (List.replicate 256 (Value.int .u32 0)).toArray
theorem zs256_zero (w : World) : (zeroValue 51).run Try.prog w = .ok (.agg zs256) w := by kernel_rfl
def crcStep (c : Int) : Int := Go.bits .xor .u32 (c / 2) (Go.bits .and .u32 2197175160 ((-(Go.bits .and .u32 c 1)) % 4294967296))
def iterI (f : Int → Int) : Nat → Int → Int
  | 0, x => x
  | n + 1, x => f (iterI f n x)
def crcOf (i : Nat) : Int := iterI crcStep 8 i
def tabL (k : Nat) : List Int := (List.range k).map crcOf ++ List.replicate (256 - k) 0
def tabA (k : Nat) : Array Value := ((tabL k).map (Value.int .u32)).toArray
theorem tabA_zero : tabA 0 = zs256 := by simp only [tabA, tabL, zs256, List.range_zero, List.map_nil, List.nil_append, Nat.sub_zero, List.map_replicate]
theorem tabA_at (k : Nat) (h : k < 256) : (tabA k)[k]? = some (.int .u32 0) := by
  simp [tabA, tabL, List.getElem?_append, List.getElem?_replicate]
  omega
theorem tabA_size (k : Nat) (h : k ≤ 256) : (tabA k).size = 256 := by simp [tabA, tabL]; omega
theorem tabA_set (k : Nat) (h : k < 256) : (tabA k).setIfInBounds k (.int .u32 (crcOf k)) = tabA (k + 1) := by
  apply Array.ext_getElem?
  intro i
  simp only [tabA, tabL, Array.getElem?_setIfInBounds, List.getElem?_toArray, List.size_toArray, List.length_map, List.length_append, List.length_range, List.length_replicate, List.getElem?_map, List.getElem?_append, List.getElem?_replicate]
  by_cases h1 : k = i
  · subst h1; simp; omega
  · rcases Nat.lt_or_ge i k with h2 | h2
    · simp [h1, h2, show i < k + 1 by omega, List.getElem?_range, show i < k from h2]
    · simp [h1, show ¬ i < k by omega, show ¬ i < k + 1 by omega, List.getElem?_range]
      split <;> split <;> first | rfl | omega
theorem tabA_one (k : Nat) : (tabA k).all (·.oneCell') = true := by
  rw [Array.all_eq_true_iff_forall_mem]
  intro v hv
  simp only [tabA, List.mem_toArray, List.mem_map] at hv
  obtain ⟨x, _, rfl⟩ := hv
  rfl
set_option maxHeartbeats 800000 in
set_option maxRecDepth 100000 in
theorem crc_table.calls (w : World) :
    Calls Try.prog 26 #[] w fun e w' => e = .returned (.agg (tabA 256)) ∧ Below w.heap.size w w' := by
  have hz := zs256_zero
  go_enter Try.func26, Try.ntmps26
  go_wp2
  go_loopw [4] (fun i wr => ∃ k : Nat, k ≤ 256 ∧ i = .int .i64 k ∧ wr = (w.alloc (.cells zs256 51)).alloc (.cells (tabA k) 51)) (fun i _ => 256 - (intOf i).toNat)
  case atStart => exact ⟨0, by omega, rfl, by rw [tabA_zero]⟩
  case round =>
    obtain ⟨k, hk, rfl, rfl⟩ := hrel
    by_cases hlt : k < 256
    · have hck := tabA_at k hlt
      go_wp2
      go_loop [9, 3] (fun j c => ∃ n : Nat, n ≤ 8 ∧ j = .int .i64 n ∧ c = .int .u32 (iterI crcStep n k)) (fun j _ => 8 - (intOf j).toNat)
      case atStart => exact ⟨0, by omega, rfl, rfl⟩
      case round =>
        obtain ⟨n, hn, rfl, rfl⟩ := hrel
        by_cases hlt2 : n < 8
        · go_wp2
          go_round
          case rel => exact ⟨n + 1, by omega, by go_num, rfl⟩
          case measure => simp [intOf]; omega
        · obtain rfl : n = 8 := by omega
          go_wp2
          refine ⟨⟨k + 1, by omega, by go_num, ?_⟩, ?_⟩
          · exact congrArg _ (congrArg (fun c => Obj.cells c 51) (tabA_set k hlt))
          · simp [intOf]; omega
    · obtain rfl : k = 256 := by omega
      have hg1 : ((w.alloc (.cells zs256 51)).alloc (.cells (tabA 256) 51)).heap[w.heap.size + 1]? = some (.cells (tabA 256) 51 (0, 0)) := by have := heap_alloc_new (w.alloc (.cells zs256 51)) (.cells (tabA 256) 51); rwa [World.size_alloc] at this
      have hg2 : ((w.alloc (.cells zs256 51)).alloc (.cells (tabA 256) 51)).heap[w.heap.size]? = some (.cells zs256 51 (0, 0)) := by simp [World.alloc, -World.alloc_eq, Array.getElem?_push]
      have hi : (Try.prog.info? 51).map (·.size) = some (tabA 256).size := by rw [tabA_size 256 (Nat.le_refl _)]; kernel_rfl
      have ho : zs256.size = (tabA 256).size := by rw [tabA_size 256 (Nat.le_refl _)]; rfl
      have h1 : (tabA 256).all (·.oneCell') = true := by
        rw [Array.all_eq_true_iff_forall_mem]
        intro v hv
        simp only [tabA, List.mem_toArray, List.mem_map] at hv
        obtain ⟨x, _, rfl⟩ := hv
        rfl
      have HB := Aside0.mk (below_setRow (B := w.heap.size) (g := w.heap.size) (((Below.refl _ _).alloc (Nat.le_refl _) (.cells zs256 51)).alloc (by simp) (.cells (tabA 256) 51)) (Nat.le_refl _) (tabA 256))
      have HG := Aside0.mk (setRow_heap _ _ _ (tabA 256) _ _ hg2)
      generalize hW : (w.alloc (.cells zs256 51)).alloc (.cells (tabA 256) 51) = W at hg1 hg2 HB HG ⊢
      clear hW
      go_wp2_with (first | (refine wpList_load_row rfl 51 _ rfl (w.heap.size + 1) rfl 51 (tabA 256) (0, 0) _ hg1 Try.underlying51 rfl hi ?_) | (refine wpList_store_row rfl 51 _ _ rfl w.heap.size (tabA 256) rfl rfl 51 zs256 hg2 hi ho h1 ?_))
      exact bodyPost_ret (v := .agg (tabA 256)) (results_cell_row rfl _ _ w.heap.size 51 (tabA 256) (0, 0) _ rfl HG.out Try.underlying51 rfl hi) rfl ⟨rfl, HB.out⟩

theorem xor8_range (a b : Int) (h0 : 0 ≤ a) (h1 : a < 256) (h2 : 0 ≤ b) (h3 : b < 256) : 0 ≤ Go.bits .xor .u8 a b ∧ Go.bits .xor .u8 a b < 256 := by
  rw [u8_xor a b h0 h1 h2 h3]
  have := Nat.xor_lt_two_pow (n := 8) (x := a.toNat) (y := b.toNat) (by omega) (by omega)
  omega
def crcNext (c : Int) (x : Int) : Int := Go.bits .xor .u32 (crcOf (Go.bits .xor .u8 (c % 256) x).toNat) (c / 256)
def moreL (l : List UInt8) (c : Int) : Int := l.foldl (fun c b => crcNext c (b.toNat : Int)) c
theorem below_bytesWorld {B : Nat} {w0 w : World} (h : Below B w0 w) (hB : B ≤ w.heap.size) (e : TypeId) (s : ByteArray) : Below B w0 (Lib.bytesWorld w e s) :=
  h.trans ⟨rfl, rfl, rfl, by rw [Lib.bytesWorld_size]; omega, fun k hk => Lib.bytesWorld_at_old w e s k (by omega)⟩
theorem moreL_take (b : ByteArray) (k : Nat) (h : k < b.size) (c : Int) : moreL (b.data.toList.take (k + 1)) c = crcNext (moreL (b.data.toList.take k) c) ((b.data.toList.getD k 0).toNat : Int) := by
  have hl : k < b.data.toList.length := by rw [← Lib.size_eq]; exact h
  rw [List.take_succ_eq_append_getElem hl, moreL, List.foldl_append, List.getD_eq_getElem?_getD, List.getElem?_eq_getElem hl]
  rfl
set_option maxHeartbeats 800000 in
set_option maxRecDepth 100000 in
theorem crc_More.calls0 (sum : Int) (b : ByteArray) (w : World) (hb : b.size ≤ 4611686018427387904) (r : Int) (hr : Go.bits .xor .u32 IntKind.u32.max (moreL b.data.toList (Go.bits .xor .u32 IntKind.u32.max sum)) = r) :
    Calls Try.prog 15 #[.int .u32 sum, .string b] w fun e w' => e = .returned (.int .u32 r) ∧ Below w.heap.size w w' := by
  have hz := zs256_zero
  have HR := Aside0.mk hr
  clear hr
  have hsg : IntKind.u32.signed = false := rfl
  go_enter Try.func15, Try.ntmps15
  go_wp2_with fail
  refine (crc_table.calls _).mono ?_
  rintro e w1 ⟨rfl, hb1⟩
  have hi : (Try.prog.info? 51).map (·.size) = some (tabA 256).size := by rw [tabA_size 256 (Nat.le_refl _)]; kernel_rfl
  have ho : zs256.size = (tabA 256).size := by rw [tabA_size 256 (Nat.le_refl _)]; rfl
  have h1 := tabA_one 256
  have hcv := fun W => Lib.run_convert_string_bytes (P := Try.prog) W 9 32 5 b Try.underlying9 Try.underlying32 Try.underlying5
  go_wp2_with (refine wpList_store_row rfl 51 _ _ rfl w1.heap.size (tabA 256) rfl rfl 51 zs256 (heap_alloc_new _ _) hi ho h1 ?_; rw [World.setRow_alloc_new]; clear hi ho h1)
  have hT : ∀ j : Nat, j < 256 → (Lib.bytesWorld (w1.alloc (.cells (tabA 256) 51)) 5 b).cell? ⟨w1.heap.size, j, none⟩ = some (.int .u32 (crcOf j)) := by
    intro j hj
    rw [Lib.bytesWorld_old _ _ _ _ (by simp), World.cell?, heap_alloc_new]
    simp [tabA, tabL, List.getElem?_append, hj]
  have hS : ∀ j : Nat, j < b.size → (Lib.bytesWorld (w1.alloc (.cells (tabA 256) 51)) 5 b).cell? ⟨w1.heap.size + 1, j, none⟩ = some (.int .u8 ((b.data.toList.getD j 0).toNat : Int)) := by
    intro j hj
    have := Lib.bytesWorld_cell (w1.alloc (.cells (tabA 256) 51)) 5 b j hj
    rwa [World.size_alloc] at this
  have HB := Aside0.mk (below_bytesWorld (hb1.alloc hb1.size (.cells (tabA 256) 51)) (by have := hb1.size; simp; omega) 5 b)
  generalize Lib.bytesWorld (w1.alloc (.cells (tabA 256) 51)) 5 b = W at hT hS HB ⊢
  generalize grownCap (w1.alloc (.cells (tabA 256) 51)) b.size 0 5 = cap
  have HT := Aside0.mk hT
  have HS := Aside0.mk hS
  clear hT hS hcv hz hb1
  go_loop [15, 6] (fun i c => ∃ k : Nat, k ≤ b.size ∧ i = .int .i64 k ∧ c = .int .u32 (moreL (b.data.toList.take k) (Go.bits .xor .u32 IntKind.u32.max sum))) (fun i _ => b.size - (intOf i).toNat)
  case atStart => exact ⟨0, by omega, rfl, rfl⟩
  case round =>
    obtain ⟨k, hk, rfl, rfl⟩ := hrel
    generalize hc : moreL (b.data.toList.take k) (Go.bits .xor .u32 IntKind.u32.max sum) = c
    have HC := Aside0.mk hc
    clear hc
    by_cases hlt : k < b.size
    · have hx := HS.out k hlt
      generalize hg : (((b.data.toList.getD k 0).toNat : Nat) : Int) = x at hx
      have HG := Aside0.mk hg
      have x0 : 0 ≤ x := by omega
      have x1 : x < 256 := by have := (b.data.toList.getD k 0).toNat_lt; omega
      clear hg
      have hi := xor8_range (c % 256) x (by omega) (by omega) x0 x1
      obtain ⟨i0, i1⟩ := hi
      have ht := HT.out (Go.bits .xor .u8 (c % 256) x).toNat (by omega)
      go_wp2
      go_round
      case rel => exact ⟨k + 1, by omega, by go_num, by rw [moreL_take b k hlt, HC.out, HG.out]; rfl⟩
      case measure => simp [intOf]; omega
    · go_wp2
      go_ret
      exact ⟨by rw [← HR.out, ← HC.out, List.take_of_length_le (by rw [← Lib.size_eq]; omega)]; rfl, HB.out⟩
/-- More, in words: the check is turned round, goes on byte by byte, and is turned round again. -/
def crc_More.f (a0 : Int) (a1 : ByteArray) : Option Int := if a1.size ≤ 4611686018427387904 then some (Go.bits .xor .u32 IntKind.u32.max (moreL a1.data.toList (Go.bits .xor .u32 IntKind.u32.max a0))) else none
theorem crc_More.calls (a0 : Int) (a1 : ByteArray) (r : Int) (w : World) (h : crc_More.f a0 a1 = some r) :
    Calls Try.prog 15 #[.int .u32 a0, .string a1] w fun e w' => e = .returned (.int .u32 r) ∧ Below w.heap.size w w' := by
  unfold crc_More.f at h
  by_cases hz : a1.size ≤ 4611686018427387904
  case neg => rw [if_neg hz] at h; exact absurd h (by simp)
  rw [if_pos hz] at h
  exact crc_More.calls0 a0 a1 w hz r (Option.some.inj h)


/-! ### crc_Sum: function 13 -/
def crc_Sum.f (a0 : ByteArray) : Option (Int) := (crc_More.f 0 a0).bind fun t101 => (some t101)
set_option maxHeartbeats 8000000 in
set_option maxRecDepth 100000 in
theorem crc_Sum.calls (a0 : ByteArray) (r : Int) (w : World) (h : crc_Sum.f a0 = some r) :
    Calls Try.prog 13 #[.string a0] w fun e w' => e = .returned (.int .u32 r) ∧ Below w.heap.size w w' := by
  have HB := Aside0.mk (Below.refl w.heap.size w)
  have H : ((crc_More.f 0 a0).bind fun t101 => (some t101)) = some r := h
  clear h
  replace H := Option.bind_eq_some_iff.mp H
  obtain ⟨t101, A20, H⟩ := H
  replace H : (some t101) = some r := H
  have A2 := Aside0.mk A20
  clear A20
  obtain rfl := Option.some.inj H
  go_enter Try.func13, Try.ntmps13
  go_wp2_with (first | ((with_reducible refine gate_callee (f := 15) rfl ?_); refine goesL_ (some 4) rfl rfl Try.func15 (by kernel_rfl) rfl #[.int .u32 0, .string a0] rfl (by (try simp only [List.map_toArray, List.map_cons, List.map_nil]); first | done | rfl | (simp only [List.length_drop, List.length_take]; rfl)) ?_; (with_reducible refine (crc_More.calls 0 a0 t101 _ A2.out).mono ?_); rintro e w3 ⟨rfl, hb⟩; refine ⟨_, rfl, ?_⟩; have n0_ := Aside0.mk (below_step (by repeat (first | (with_reducible first | exact HB.out | apply below_alloc | apply pw_below_drewN | apply below_drew1) | exact HB.out)) hb); clear HB; have HB := n0_; clear n0_; (try clear hb); (try clear hb2); (try clear hk); (try clear hi)))
  go_ret
  exact ⟨by first | rfl | (simp [errW_none, errW_some] <;> rfl) | (simp [*, errW_none, errW_some] <;> rfl) | (simp [errW_none, errW_some]; exact isEmpty_bne _), by repeat (first | (with_reducible first | exact HB.out | apply below_alloc | apply pw_below_drewN | apply below_drew1) | exact HB.out)⟩


/-! ### crc_Seal: function 17 -/
def seal4 (n : Int) : List Int := [n % 256, n / 256 % 256, n / 65536 % 256, n / 16777216 % 256]
def crc_Seal.f (a0 : ByteArray) : Option ByteArray := (crc_Sum.f a0).bind fun n => if a0.size ≤ 4611686018427387904 then some (strOfNums (seal4 n) ++ a0) else none
set_option maxHeartbeats 800000 in
theorem crc_Seal.calls (a0 : ByteArray) (r : ByteArray) (w : World) (h : crc_Seal.f a0 = some r) :
    Calls Try.prog 17 #[.string a0] w fun e w' => e = .returned (.string r) ∧ Below w.heap.size w w' := by
  obtain ⟨n, h1, h2⟩ := Option.bind_eq_some_iff.mp h
  clear h
  by_cases hz : a0.size ≤ 4611686018427387904
  case neg => rw [if_neg hz] at h2; exact absurd h2 (by simp)
  rw [if_pos hz] at h2
  have HR := Aside0.mk (Option.some.inj h2)
  have H1 := Aside0.mk h1
  have hs : (strOfNums (seal4 n)).size = 4 := by simp [strOfNums, seal4, ByteArray.size]
  have hd : decide ((strOfNums (seal4 n)).size + a0.size ≤ 9223372036854775807) = true := by rw [hs]; simp; omega
  have hs4 : (strOfNums (seal4 n)).size ≤ 4 := by omega
  clear h1 h2 hs
  go_enter Try.func17, Try.ntmps17
  go_wp2_with fail
  refine (crc_Sum.calls a0 n _ H1.out).mono ?_
  rintro e w1 ⟨rfl, hb⟩
  go_wp2
  go_loopw [8] (fun i wr => (i = .int .i64 0 ∧ wr = w1.alloc (.cells #[.int .u8 0, .int .u8 0, .int .u8 0, .int .u8 0] 31)) ∨ (i = .int .i64 1 ∧ wr = w1.alloc (.cells #[.int .u8 (n % 256), .int .u8 0, .int .u8 0, .int .u8 0] 31))
    ∨ (i = .int .i64 2 ∧ wr = w1.alloc (.cells #[.int .u8 (n % 256), .int .u8 (n / 256 % 256), .int .u8 0, .int .u8 0] 31)) ∨ (i = .int .i64 3 ∧ wr = w1.alloc (.cells #[.int .u8 (n % 256), .int .u8 (n / 256 % 256), .int .u8 (n / 65536 % 256), .int .u8 0] 31))
    ∨ (i = .int .i64 4 ∧ wr = w1.alloc (.cells #[.int .u8 (n % 256), .int .u8 (n / 256 % 256), .int .u8 (n / 65536 % 256), .int .u8 (n / 16777216 % 256)] 31))) (fun i _ => 4 - (intOf i).toNat)
  case atStart => exact .inl ⟨rfl, rfl⟩
  case round =>
    rcases hrel with ⟨rfl, rfl⟩ | ⟨rfl, rfl⟩ | ⟨rfl, rfl⟩ | ⟨rfl, rfl⟩ | ⟨rfl, rfl⟩
    · go_wp2
      exact ⟨.inr (.inl ⟨rfl, by first | rfl | trivial⟩), by simp [intOf]⟩
    · go_wp2
      exact ⟨.inr (.inr (.inl ⟨rfl, by first | rfl | trivial⟩)), by simp [intOf]⟩
    · go_wp2
      exact ⟨.inr (.inr (.inr (.inl ⟨rfl, by first | rfl | trivial⟩))), by simp [intOf]⟩
    · go_wp2
      exact ⟨.inr (.inr (.inr (.inr ⟨rfl, by first | rfl | trivial⟩))), by simp [intOf]⟩
    · have hcv := run_convert_bytes_arg (P := Try.prog) (w1.alloc (.cells #[.int .u8 (n % 256), .int .u8 (n / 256 % 256), .int .u8 (n / 65536 % 256), .int .u8 (n / 16777216 % 256)] 31)) 32 5 Try.underlying32 Try.underlying5 w1.heap.size 0 4 4 (seal4 n) rfl
        (fun i hi => by
          rw [World.cell?, heap_alloc_new]
          match i, hi with
          | 0, _ => rfl
          | 1, _ => rfl
          | 2, _ => rfl
          | 3, _ => rfl) 9 Try.underlying9
      go_wp2
      go_ret
      exact ⟨by rw [HR.out]; rfl, hb.alloc hb.size _⟩


/-! ### crc_Open: function 11 -/
def crc_Open.f (a0 : ByteArray) : Option (ByteArray × Bool) := if (a0.size : Int) < 4 then (some ((⟨#[]⟩ : ByteArray), false)) else (if 4 ≤ (a0.size : Int) then ((crc_Seal.f (a0.extract 4 a0.size)).bind fun t102 => (if 0 ≤ 4 then (if 4 ≤ (t102.size : Int) then (if (t102.extract 0 4).toList = (a0.extract 0 4).toList then (some (a0.extract 4 a0.size, true)) else (some ((⟨#[]⟩ : ByteArray), false))) else (none)) else (none))) else (none))
set_option maxHeartbeats 8000000 in
set_option maxRecDepth 100000 in
theorem crc_Open.calls (a0 : ByteArray) (r1 : ByteArray) (r2 : Bool) (w : World) (h : crc_Open.f a0 = some (r1, r2)) :
    Calls Try.prog 11 #[.string a0] w fun e w' => e = .returned (.tuple #[.string r1, .bool r2]) ∧ Below w.heap.size w w' := by
  have HB := Aside0.mk (Below.refl w.heap.size w)
  have H : (if (a0.size : Int) < 4 then (some ((⟨#[]⟩ : ByteArray), false)) else (if 4 ≤ (a0.size : Int) then ((crc_Seal.f (a0.extract 4 a0.size)).bind fun t102 => (if 0 ≤ 4 then (if 4 ≤ (t102.size : Int) then (if (t102.extract 0 4).toList = (a0.extract 0 4).toList then (some (a0.extract 4 a0.size, true)) else (some ((⟨#[]⟩ : ByteArray), false))) else (none)) else (none))) else (none))) = some (r1, r2) := h
  clear h
  by_cases c2 : (a0.size : Int) < 4
  · rw [if_pos c2] at H
    have c2b0 : decide ((a0.size : Int) < 4) = true := decide_eq_true c2
    have c2b1 : decide (a0.size < 4) = true := decide_eq_true (by omega)
    clear c2
    simp only [Option.some.injEq, Prod.mk.injEq] at H
    obtain ⟨rfl, rfl⟩ := H
    go_enter Try.func11, Try.ntmps11
    go_wp2
    go_ret2
    exact ⟨by first | rfl | (simp [errW_none, errW_some] <;> rfl) | (simp [*, errW_none, errW_some] <;> rfl) | (simp [errW_none, errW_some]; exact isEmpty_bne _), by repeat (first | (with_reducible first | exact HB.out | apply below_alloc | apply pw_below_drewN | apply below_drew1) | exact HB.out)⟩
  · rw [if_neg c2] at H
    have c2b0 : decide ((a0.size : Int) < 4) = false := decide_eq_false c2
    have c2b1 : decide (a0.size < 4) = false := decide_eq_false (by omega)
    clear c2
    by_cases c3 : 4 ≤ (a0.size : Int)
    · rw [if_pos c3] at H
      have c3b0 := eq_true c3
      have c3b1 : decide (4 ≤ (a0.size : Int)) = true := decide_eq_true c3
      clear c3
      replace H := Option.bind_eq_some_iff.mp H
      obtain ⟨t102, A40, H⟩ := H
      replace H : (if 0 ≤ 4 then (if 4 ≤ (t102.size : Int) then (if (t102.extract 0 4).toList = (a0.extract 0 4).toList then (some (a0.extract 4 a0.size, true)) else (some ((⟨#[]⟩ : ByteArray), false))) else (none)) else (none)) = some (r1, r2) := H
      have A4 := Aside0.mk A40
      clear A40
      by_cases c5 : 0 ≤ 4
      · rw [if_pos c5] at H
        have c5b0 := eq_true c5
        have c5b1 : decide (0 ≤ 4) = true := decide_eq_true c5
        clear c5
        by_cases c6 : 4 ≤ (t102.size : Int)
        · rw [if_pos c6] at H
          have c6b0 := eq_true c6
          have c6b1 : decide (4 ≤ (t102.size : Int)) = true := decide_eq_true c6
          clear c6
          have c7b0 := eq_true (of_decide_eq_true (by first | (with_reducible assumption) | assumption) : 0 ≤ 4)
          have c8b0 := eq_true (of_decide_eq_true (by first | (with_reducible assumption) | assumption) : 4 ≤ (a0.size : Int))
          by_cases c9 : (t102.extract 0 4).toList = (a0.extract 0 4).toList
          · rw [if_pos c9] at H
            have c9b0 : ((t102.extract 0 4).toList == (a0.extract 0 4).toList) = true := beq_iff_eq.mpr c9
            have c9b1 : ((t102.extract 0 4).toList != (a0.extract 0 4).toList) = false := bne_eq_false_iff_eq.mpr c9
            clear c9
            have c10b0 := eq_true (of_decide_eq_true (by first | (with_reducible assumption) | assumption) : 4 ≤ (a0.size : Int))
            simp only [Option.some.injEq, Prod.mk.injEq] at H
            obtain ⟨rfl, rfl⟩ := H
            go_enter Try.func11, Try.ntmps11
            try go_wp2
            have n0_ := Aside0.mk (below_drew1 HB.out)
            clear HB
            have HB := n0_
            clear n0_
            refine start_ (n := 7) (S := fun w' => True) (ds := []) #[false, false, false, false, false, false, false] (by kernel_rfl) rfl rfl trivial (fun hHeld => ?_)
            generalize w.drew = w11 at HB hHeld ⊢
            refine pure_ (i := 0) (N := some 7) (v := ?_) (a' := ?_) #[true, false, false, false, false, false, false] rfl rfl (by kernel_rfl) (fun _ _ _ h => h) (Or.inl ⟨by rfl, ?_⟩) ?_ ?_
            rotate_left
            · intro w'
              go_simp
              with_reducible rfl
            rotate_left
            · simp only [Act.put, List.setIfInBounds_toArray, List.set_cons_zero, List.set_cons_succ, i64_w, i32_w]
              rfl
            refine pure_ (i := 1) (N := some 8) (v := ?_) (a' := ?_) #[true, true, false, false, false, false, false] rfl rfl (by kernel_rfl) (fun _ _ _ h => h) (Or.inl ⟨by rfl, ?_⟩) ?_ ?_
            rotate_left
            · intro w'
              go_simp
              with_reducible rfl
            rotate_left
            · simp only [Act.put, List.setIfInBounds_toArray, List.set_cons_zero, List.set_cons_succ, i64_w, i32_w]
              rfl
            refine pure_ (i := 4) (N := some 11) (v := ?_) (a' := ?_) #[true, true, false, false, true, false, false] rfl rfl (by kernel_rfl) (fun _ _ _ h => h) (Or.inl ⟨by rfl, ?_⟩) ?_ ?_
            rotate_left
            · intro w'
              go_simp
              with_reducible rfl
            rotate_left
            · simp only [Act.put, List.setIfInBounds_toArray, List.set_cons_zero, List.set_cons_succ, i64_w, i32_w]
              rfl
            refine pure_ (i := 5) (N := some 12) (v := ?_) (a' := ?_) #[true, true, false, false, true, true, false] rfl rfl (by kernel_rfl) (fun _ _ _ h => h) (Or.inl ⟨by rfl, ?_⟩) ?_ ?_
            rotate_left
            · intro w'
              go_simp
              with_reducible rfl
            rotate_left
            · simp only [Act.put, List.setIfInBounds_toArray, List.set_cons_zero, List.set_cons_succ, i64_w, i32_w]
              rfl
            refine one_ (i := 2) (N := some 9) #[true, true, true, false, true, true, false] rfl rfl (by kernel_rfl) (by decide) (fun K hK => ?_)
            refine goes_ Try.func17 (by kernel_rfl) rfl #[.string (a0.extract 4 a0.size)] (by rfl) rfl rfl (by (try simp only [List.map_toArray, List.map_cons, List.map_nil]); first | done | rfl | (simp only [List.length_drop, List.length_take]; rfl)) ?_
            with_reducible refine (crc_Seal.calls (a0.extract 4 a0.size) t102 _ A4.out).mono ?_
            rintro e w12 ⟨rfl, hb⟩
            refine ⟨_, rfl, ?_⟩
            have n0_ := Aside0.mk (below_step (by repeat (first | (with_reducible first | exact HB.out | apply below_alloc | apply pw_below_drewN | apply below_drew1) | exact HB.out)) hb)
            clear HB
            have HB := n0_
            clear n0_
            (try clear hb)
            (try clear hb2)
            (try clear hk)
            (try clear hi)
            refine hK.out _ _ trivial (fun hHeld => ?_)
            clear hK K
            refine norm_ (a' := ?_) ?_ ?_
            rotate_left
            · show Act.put _ (some 9) _ = _
              simp only [Act.put, List.setIfInBounds_toArray, List.set_cons_zero, List.set_cons_succ, i64_w, i32_w]
              rfl
            refine pure_ (i := 3) (N := some 10) (v := ?_) (a' := ?_) #[true, true, true, true, true, true, false] rfl rfl (by kernel_rfl) (fun _ _ _ h => h) (Or.inl ⟨by rfl, ?_⟩) ?_ ?_
            rotate_left
            · intro w'
              go_simp
              with_reducible rfl
            rotate_left
            · simp only [Act.put, List.setIfInBounds_toArray, List.set_cons_zero, List.set_cons_succ, i64_w, i32_w]
              rfl
            refine pure_ (i := 6) (N := some 13) (v := ?_) (a' := ?_) #[true, true, true, true, true, true, true] rfl rfl (by kernel_rfl) (fun _ _ _ h => h) (Or.inl ⟨by rfl, ?_⟩) ?_ ?_
            rotate_left
            · intro w'
              go_simp
              with_reducible rfl
            rotate_left
            · simp only [Act.put, List.setIfInBounds_toArray, List.set_cons_zero, List.set_cons_succ, i64_w, i32_w]
              rfl
            refine done_ (by kernel_rfl) ?_
            try go_wp2
            go_ret2
            exact ⟨by first | rfl | (simp [errW_none, errW_some] <;> rfl) | (simp [*, errW_none, errW_some] <;> rfl) | (simp [errW_none, errW_some]; exact isEmpty_bne _), by repeat (first | (with_reducible first | exact HB.out | apply below_alloc | apply pw_below_drewN | apply below_drew1) | exact HB.out)⟩
          · rw [if_neg c9] at H
            have c9b0 : ((t102.extract 0 4).toList == (a0.extract 0 4).toList) = false := beq_eq_false_iff_ne.mpr c9
            have c9b1 : ((t102.extract 0 4).toList != (a0.extract 0 4).toList) = true := bne_iff_ne.mpr c9
            simp only [Option.some.injEq, Prod.mk.injEq] at H
            obtain ⟨rfl, rfl⟩ := H
            go_enter Try.func11, Try.ntmps11
            try go_wp2
            have n0_ := Aside0.mk (below_drew1 HB.out)
            clear HB
            have HB := n0_
            clear n0_
            refine start_ (n := 7) (S := fun w' => True) (ds := []) #[false, false, false, false, false, false, false] (by kernel_rfl) rfl rfl trivial (fun hHeld => ?_)
            generalize w.drew = w13 at HB hHeld ⊢
            refine pure_ (i := 0) (N := some 7) (v := ?_) (a' := ?_) #[true, false, false, false, false, false, false] rfl rfl (by kernel_rfl) (fun _ _ _ h => h) (Or.inl ⟨by rfl, ?_⟩) ?_ ?_
            rotate_left
            · intro w'
              go_simp
              with_reducible rfl
            rotate_left
            · simp only [Act.put, List.setIfInBounds_toArray, List.set_cons_zero, List.set_cons_succ, i64_w, i32_w]
              rfl
            refine pure_ (i := 1) (N := some 8) (v := ?_) (a' := ?_) #[true, true, false, false, false, false, false] rfl rfl (by kernel_rfl) (fun _ _ _ h => h) (Or.inl ⟨by rfl, ?_⟩) ?_ ?_
            rotate_left
            · intro w'
              go_simp
              with_reducible rfl
            rotate_left
            · simp only [Act.put, List.setIfInBounds_toArray, List.set_cons_zero, List.set_cons_succ, i64_w, i32_w]
              rfl
            refine pure_ (i := 4) (N := some 11) (v := ?_) (a' := ?_) #[true, true, false, false, true, false, false] rfl rfl (by kernel_rfl) (fun _ _ _ h => h) (Or.inl ⟨by rfl, ?_⟩) ?_ ?_
            rotate_left
            · intro w'
              go_simp
              with_reducible rfl
            rotate_left
            · simp only [Act.put, List.setIfInBounds_toArray, List.set_cons_zero, List.set_cons_succ, i64_w, i32_w]
              rfl
            refine pure_ (i := 5) (N := some 12) (v := ?_) (a' := ?_) #[true, true, false, false, true, true, false] rfl rfl (by kernel_rfl) (fun _ _ _ h => h) (Or.inl ⟨by rfl, ?_⟩) ?_ ?_
            rotate_left
            · intro w'
              go_simp
              with_reducible rfl
            rotate_left
            · simp only [Act.put, List.setIfInBounds_toArray, List.set_cons_zero, List.set_cons_succ, i64_w, i32_w]
              rfl
            refine one_ (i := 2) (N := some 9) #[true, true, true, false, true, true, false] rfl rfl (by kernel_rfl) (by decide) (fun K hK => ?_)
            refine goes_ Try.func17 (by kernel_rfl) rfl #[.string (a0.extract 4 a0.size)] (by rfl) rfl rfl (by (try simp only [List.map_toArray, List.map_cons, List.map_nil]); first | done | rfl | (simp only [List.length_drop, List.length_take]; rfl)) ?_
            with_reducible refine (crc_Seal.calls (a0.extract 4 a0.size) t102 _ A4.out).mono ?_
            rintro e w14 ⟨rfl, hb⟩
            refine ⟨_, rfl, ?_⟩
            have n0_ := Aside0.mk (below_step (by repeat (first | (with_reducible first | exact HB.out | apply below_alloc | apply pw_below_drewN | apply below_drew1) | exact HB.out)) hb)
            clear HB
            have HB := n0_
            clear n0_
            (try clear hb)
            (try clear hb2)
            (try clear hk)
            (try clear hi)
            refine hK.out _ _ trivial (fun hHeld => ?_)
            clear hK K
            refine norm_ (a' := ?_) ?_ ?_
            rotate_left
            · show Act.put _ (some 9) _ = _
              simp only [Act.put, List.setIfInBounds_toArray, List.set_cons_zero, List.set_cons_succ, i64_w, i32_w]
              rfl
            refine pure_ (i := 3) (N := some 10) (v := ?_) (a' := ?_) #[true, true, true, true, true, true, false] rfl rfl (by kernel_rfl) (fun _ _ _ h => h) (Or.inl ⟨by rfl, ?_⟩) ?_ ?_
            rotate_left
            · intro w'
              go_simp
              with_reducible rfl
            rotate_left
            · simp only [Act.put, List.setIfInBounds_toArray, List.set_cons_zero, List.set_cons_succ, i64_w, i32_w]
              rfl
            refine pure_ (i := 6) (N := some 13) (v := ?_) (a' := ?_) #[true, true, true, true, true, true, true] rfl rfl (by kernel_rfl) (fun _ _ _ h => h) (Or.inl ⟨by rfl, ?_⟩) ?_ ?_
            rotate_left
            · intro w'
              go_simp
              with_reducible rfl
            rotate_left
            · simp only [Act.put, List.setIfInBounds_toArray, List.set_cons_zero, List.set_cons_succ, i64_w, i32_w]
              rfl
            refine done_ (by kernel_rfl) ?_
            try go_wp2
            go_ret2
            exact ⟨by first | rfl | (simp [errW_none, errW_some] <;> rfl) | (simp [*, errW_none, errW_some] <;> rfl) | (simp [errW_none, errW_some]; exact isEmpty_bne _), by repeat (first | (with_reducible first | exact HB.out | apply below_alloc | apply pw_below_drewN | apply below_drew1) | exact HB.out)⟩
        · rw [if_neg c6] at H
          exact absurd H (by simp)
      · rw [if_neg c5] at H
        exact absurd H (by simp)
    · rw [if_neg c3] at H
      exact absurd H (by simp)


/-! ### thwartlaw02_awake: function 10 -/
def thwartlaw02_awake.f  : Option (Bool) := (crc_Seal.f (⟨#[97, 98]⟩ : ByteArray)).bind fun t103 => ((crc_Open.f t103).bind fun bt104 => ((crc_Sum.f (⟨#[49, 50, 51, 52, 53, 54, 55, 56, 57]⟩ : ByteArray)).bind fun t106 => (if t106 = 3808858755 then (if bt104.1.toList = ([97, 98] : List UInt8) then (some bt104.2) else (none)) else (none))))
set_option maxHeartbeats 8000000 in
set_option maxRecDepth 100000 in
theorem thwartlaw02_awake.calls  (r : Bool) (w : World) (h : thwartlaw02_awake.f  = some r) :
    Calls Try.prog 10 #[] w fun e w' => e = .returned (.bool r) ∧ Below w.heap.size w w' := by
  have HB := Aside0.mk (Below.refl w.heap.size w)
  have H : ((crc_Seal.f (⟨#[97, 98]⟩ : ByteArray)).bind fun t103 => ((crc_Open.f t103).bind fun bt104 => ((crc_Sum.f (⟨#[49, 50, 51, 52, 53, 54, 55, 56, 57]⟩ : ByteArray)).bind fun t106 => (if t106 = 3808858755 then (if bt104.1.toList = ([97, 98] : List UInt8) then (some bt104.2) else (none)) else (none))))) = some r := h
  clear h
  replace H := Option.bind_eq_some_iff.mp H
  obtain ⟨t103, A10, H⟩ := H
  replace H : ((crc_Open.f t103).bind fun bt104 => ((crc_Sum.f (⟨#[49, 50, 51, 52, 53, 54, 55, 56, 57]⟩ : ByteArray)).bind fun t106 => (if t106 = 3808858755 then (if bt104.1.toList = ([97, 98] : List UInt8) then (some bt104.2) else (none)) else (none)))) = some r := H
  have A1 := Aside0.mk A10
  clear A10
  replace H := Option.bind_eq_some_iff.mp H
  obtain ⟨⟨t104, t105⟩, A20, H⟩ := H
  replace H : ((crc_Sum.f (⟨#[49, 50, 51, 52, 53, 54, 55, 56, 57]⟩ : ByteArray)).bind fun t106 => (if t106 = 3808858755 then (if t104.toList = ([97, 98] : List UInt8) then (some t105) else (none)) else (none))) = some r := H
  have A2 := Aside0.mk A20
  clear A20
  replace H := Option.bind_eq_some_iff.mp H
  obtain ⟨t106, A30, H⟩ := H
  replace H : (if t106 = 3808858755 then (if t104.toList = ([97, 98] : List UInt8) then (some t105) else (none)) else (none)) = some r := H
  have A3 := Aside0.mk A30
  clear A30
  by_cases c4 : t106 = 3808858755
  · rw [if_pos c4] at H
    have c4b0 : (t106 == 3808858755) = true := beq_iff_eq.mpr c4
    have c4b1 : (t106 != 3808858755) = false := bne_eq_false_iff_eq.mpr c4
    clear c4
    by_cases c5 : t104.toList = ([97, 98] : List UInt8)
    · rw [if_pos c5] at H
      have c5b0 : (t104.toList == ([97, 98] : List UInt8)) = true := beq_iff_eq.mpr c5
      have c5b1 : (t104.toList != ([97, 98] : List UInt8)) = false := bne_eq_false_iff_eq.mpr c5
      clear c5
      obtain rfl := Option.some.inj H
      go_enter Try.func10, Try.ntmps10
      go_wp2_with (first | ((with_reducible refine gate_callee (f := 17) rfl ?_); refine goesL_ (some 4) rfl rfl Try.func17 (by kernel_rfl) rfl #[.string (⟨#[97, 98]⟩ : ByteArray)] rfl (by (try simp only [List.map_toArray, List.map_cons, List.map_nil]); first | done | rfl | (simp only [List.length_drop, List.length_take]; rfl)) ?_; (with_reducible refine (crc_Seal.calls (⟨#[97, 98]⟩ : ByteArray) t103 _ A1.out).mono ?_); rintro e w6 ⟨rfl, hb⟩; refine ⟨_, rfl, ?_⟩; have n0_ := Aside0.mk (below_step (by repeat (first | (with_reducible first | exact HB.out | apply below_alloc | apply pw_below_drewN | apply below_drew1) | exact HB.out)) hb); clear HB; have HB := n0_; clear n0_; (try clear hb); (try clear hb2); (try clear hk); (try clear hi)) | ((with_reducible refine gate_callee (f := 11) rfl ?_); refine goesL_ (some 5) rfl rfl Try.func11 (by kernel_rfl) rfl #[.string t103] rfl (by (try simp only [List.map_toArray, List.map_cons, List.map_nil]); first | done | rfl | (simp only [List.length_drop, List.length_take]; rfl)) ?_; (with_reducible refine (crc_Open.calls t103 t104 t105 _ A2.out).mono ?_); rintro e w7 ⟨rfl, hb⟩; refine ⟨_, rfl, ?_⟩; have n0_ := Aside0.mk (below_step (by repeat (first | (with_reducible first | exact HB.out | apply below_alloc | apply pw_below_drewN | apply below_drew1) | exact HB.out)) hb); clear HB; have HB := n0_; clear n0_; (try clear hb); (try clear hb2); (try clear hk); (try clear hi)) | ((with_reducible refine gate_callee (f := 13) rfl ?_); refine goesL_ (some 8) rfl rfl Try.func13 (by kernel_rfl) rfl #[.string (⟨#[49, 50, 51, 52, 53, 54, 55, 56, 57]⟩ : ByteArray)] rfl (by (try simp only [List.map_toArray, List.map_cons, List.map_nil]); first | done | rfl | (simp only [List.length_drop, List.length_take]; rfl)) ?_; (with_reducible refine (crc_Sum.calls (⟨#[49, 50, 51, 52, 53, 54, 55, 56, 57]⟩ : ByteArray) t106 _ A3.out).mono ?_); rintro e w8 ⟨rfl, hb⟩; refine ⟨_, rfl, ?_⟩; have n0_ := Aside0.mk (below_step (by repeat (first | (with_reducible first | exact HB.out | apply below_alloc | apply pw_below_drewN | apply below_drew1) | exact HB.out)) hb); clear HB; have HB := n0_; clear n0_; (try clear hb); (try clear hb2); (try clear hk); (try clear hi)))
      go_ret
      exact ⟨by first | rfl | (simp [errW_none, errW_some] <;> rfl) | (simp [*, errW_none, errW_some] <;> rfl) | (simp [errW_none, errW_some]; exact isEmpty_bne _), by repeat (first | (with_reducible first | exact HB.out | apply below_alloc | apply pw_below_drewN | apply below_drew1) | exact HB.out)⟩
    · rw [if_neg c5] at H
      exact absurd H (by simp)
  · rw [if_neg c4] at H
    exact absurd H (by simp)

end Go.Proofs.Ytcahpaoeailajaa.Ref
