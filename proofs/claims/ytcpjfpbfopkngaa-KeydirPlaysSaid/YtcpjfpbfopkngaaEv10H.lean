/- Layer 9's numbers in layer 10: where a key is at home. -/
import Derived.Test.YtcpjfpbfopkngaaRef
import Derived.Test.YtcpjfpbfopkngaaEvA
namespace Go.Proofs.Ytcpjfpbfopkngaa.Thw
open Go Go.RowKit Go.Proofs.Ytcpjfpbfopkngaa.Ref Go.Proofs.YtcpjfpbfopkngaaW.PrintWords Go.Proofs.YtcpjfpbfopkngaaW.PrintLast Go.Proofs.YtcpjfpbfopkngaaW.PrintMore
set_option linter.unusedVariables false
set_option linter.unusedSimpArgs false
def sumS (n : Nat) (b : UInt8) : Nat := (n ^^^ b.toNat) * 1099511628211 % 18446744073709551616
def sumL (l : Bs) (n : Nat) : Nat := l.foldl sumS n
theorem sumS_lt (n : Nat) (b : UInt8) : sumS n b < 18446744073709551616 := by unfold sumS; omega
theorem sumL_cons (b : UInt8) (l : Bs) (n : Nat) : sumL (b :: l) n = sumL l (sumS n b) := List.foldl_cons ..
theorem sumL_lt : ∀ (l : Bs) (n : Nat), n < 18446744073709551616 → sumL l n < 18446744073709551616
  | [], _, h => h
  | b :: l, n, _ => by rw [sumL_cons]; exact sumL_lt l (sumS n b) (sumS_lt n b)
theorem sum_step (n : Nat) (hn : n < 18446744073709551616) (s : ByteArray) (i : Nat) (h : i < (L s).length) :
    IntKind.u64.wrap ((Go.bits .xor .u64 (n : Int) (IntKind.u64.wrap (bt s (i : Int)))) * 1099511628211) = (sumS n (L s)[i] : Int) := by
  have hb := (L s)[i].toNat_lt
  rw [bt_L s i h, u64_in (n := ((L s)[i].toNat : Int)) (by omega) (by omega), xor_u64 _ _ hn (by omega), show (1099511628211 : Int) = ((1099511628211 : Nat) : Int) from rfl, mul_u64]
  unfold sumS
  exact Eq.refl _
theorem ev_sum (s : ByteArray) (hs : s.size ≤ 4611686018427387904) : ∀ (d : Nat) (n i : Nat), n < 18446744073709551616 → i + d = (L s).length →
    Ev (fun k => hash_Sum.l0 k s (n : Int) (s.size : Int) (i : Int)) (sumL ((L s).drop i) n : Int)
  | 0, n, i, hn, hi => by
    have hl := L_length s
    refine Ev.step (f := fun k => some (n : Int)) (fun k => ?_) ?_
    · simp only [hash_Sum.l0]
      rw [if_neg (by omega)]
    · rw [List.drop_of_length_le (by omega)]
      exact Ev.now _
  | d + 1, n, i, hn, hi => by
    have hl := L_length s
    have h : i < (L s).length := by omega
    refine Ev.step (f := fun k => hash_Sum.l0 k s (sumS n (L s)[i] : Int) (s.size : Int) ((i + 1 : Nat) : Int)) (fun k => ?_) ?_
    · simp only [hash_Sum.l0]
      rw [if_pos (by omega), if_pos (by omega), if_pos (by omega), sum_step n hn s i h, wrap64_in (by omega) (by omega)]
      exact Eq.refl _
    · rw [drop_at _ _ h, sumL_cons]
      exact ev_sum s hs d (sumS n (L s)[i]) (i + 1) (sumS_lt _ _) (by omega)
def sumOf (s : ByteArray) : Nat := sumL (L s) 14695981039346656037
theorem sumOf_lt (s : ByteArray) : sumOf s < 18446744073709551616 := by unfold sumOf; exact sumL_lt _ _ (by omega)
theorem ev_Sum (s : ByteArray) (hs : s.size ≤ 4611686018427387904) : Ev (fun k => hash_Sum.f k s) (sumOf s : Int) := by
  have := ev_sum s hs (L s).length 14695981039346656037 0 (by omega) (by omega)
  rw [List.drop_zero] at this
  unfold sumOf hash_Sum.f
  exact this
def xsN (n : Nat) : Nat := n ^^^ n / 8589934592
def mixN (n : Nat) : Nat := xsN (xsN (xsN n * 18397679294719823053 % 18446744073709551616) * 14181476777654086739 % 18446744073709551616)
theorem xsN_lt (n : Nat) (h : n < 18446744073709551616) : xsN n < 18446744073709551616 :=
  Nat.xor_lt_two_pow (n := 64) (by simpa using h) (Nat.lt_of_le_of_lt (Nat.div_le_self _ _) (by simpa using h))
theorem mod64 (x : Nat) : x % 18446744073709551616 < 18446744073709551616 := by omega
theorem mixN_lt (n : Nat) : mixN n < 18446744073709551616 := by unfold mixN; exact xsN_lt _ (mod64 _)
theorem xs_u64 (n : Nat) (h : n < 18446744073709551616) : Go.bits .xor .u64 (n : Int) ((n : Int) / 8589934592) = (xsN n : Int) := by
  have e : ((n : Int) / 8589934592) = ((n / 8589934592 : Nat) : Int) := by omega
  rw [e, xor_u64 _ _ h (by omega)]; unfold xsN; exact Eq.refl _
theorem mixStep_N (n c : Nat) (h : n < 18446744073709551616) : mixStep (n : Int) (c : Int) = ((xsN n * c % 18446744073709551616 : Nat) : Int) := by
  rw [mixStep, xs_u64 n h, mul_u64]
theorem mixF_N (n : Nat) (h : n < 18446744073709551616) : mixF (n : Int) = (mixN n : Int) := by
  rw [mixF, show (18397679294719823053 : Int) = ((18397679294719823053 : Nat) : Int) from rfl, mixStep_N n _ h, show (14181476777654086739 : Int) = ((14181476777654086739 : Nat) : Int) from rfl, mixStep_N _ _ (mod64 _), mixEnd, xs_u64 _ (mod64 _)]
  unfold mixN
  exact Eq.refl _
def hN (s : ByteArray) : Nat := mixN (sumOf s)
theorem hN_lt (s : ByteArray) : hN s < 18446744073709551616 := mixN_lt _
theorem pow30 (j : Nat) (h : j ≤ 30) : 2 ^ j ≤ 1073741824 ∧ 0 < 2 ^ j := ⟨by have := Nat.pow_le_pow_right (n := 2) (by omega) h; simpa using this, Nat.two_pow_pos j⟩
theorem and_i64 (a b : Nat) (ha : a ≤ 1073741824) (hb : b ≤ 1073741824) : Go.bits .and .i64 (a : Int) (b : Int) = ((a &&& b : Nat) : Int) :=
  (bits_nat .i64 31 (by decide) (fun n h0 h1 => by rw [IntKind.wrap_i64]; omega) a b (by omega) (by omega)).1
theorem ev_place_yes (s : ByteArray) (hs : s.size ≤ 4611686018427387904) (j : Nat) (hj : j ≤ 30) :
    Ev (fun k => hash_Place.f k s ((2 ^ j : Nat) : Int)) ((hN s % 2 ^ j : Nat) : Int) := by
  obtain ⟨h1, h0⟩ := pow30 j hj
  have hsub : wrap64 (((2 ^ j : Nat) : Int) - 1) = ((2 ^ j - 1 : Nat) : Int) := by rw [wrap64_in (by omega) (by omega)]; omega
  unfold hash_Place.f
  refine ev_if_neg (by omega) ?_
  refine ev_if_neg (by omega) ?_
  rw [hsub, and_i64 _ _ h1 (by omega), and_of_pow]
  refine Ev.step (f := fun k => (hash_Sum.f k s).bind fun t108 => ((hash_Mix.f t108).bind fun t109 => (some (wrap64 (Go.bits .and .u64 t109 (IntKind.u64.wrap (wrap64 (((2 ^ j : Nat) : Int) - 1)))))))) (fun k => ?_) ?_
  · simp only [hash_Place.j0]
    rw [if_neg (by decide)]
  · refine Ev.bind (ev_Sum s hs) ?_
    refine ev_bind_now rfl ?_
    refine ev_some fun k => ?_
    have hn := hN_lt s
    rw [mixF_N _ (sumOf_lt s), hsub, u64_in (by omega) (by omega), u64_and_nat _ _ (mixN_lt _) (by omega), Nat.and_two_pow_sub_one_eq_mod]
    have h3 : mixN (sumOf s) % 2 ^ j < 2 ^ j := Nat.mod_lt _ h0
    rw [wrap64_in (by omega) (by omega)]
    unfold hN
    exact Eq.refl _
/-- A key's home among n places. -/
def hmK (n : Nat) (k : ByteArray) : Nat := hN k % n
theorem place_calls (k : ByteArray) (hk : k.size ≤ 4611686018427387904) (j : Nat) (hj : j ≤ 30) (w : World) :
    Calls Try.prog 28 #[.string k, .int .i64 ((2 ^ j : Nat) : Int)] w fun e w' => e = .returned (.int .i64 ((hmK (2 ^ j) k : Nat) : Int)) ∧ Below w.heap.size w w' := by
  obtain ⟨q, hq⟩ := Ev.rounds (ev_place_yes k hk j hj)
  exact hash_Place.calls q k _ _ w hq
end Go.Proofs.Ytcpjfpbfopkngaa.Thw
