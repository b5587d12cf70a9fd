/- Layer 9 (hash): what the printed functions come to, and the three statements. -/
import Derived.Test.YtefengipbmgpkaaPrint1
import Derived.Test.YtefengipbmgpkaaPrint2
import Derived.Test.YtefengipbmgpkaaEvA
namespace Go.Proofs.Ytefengipbmgpkaa.Thw
open Go Go.RowKit Go.Proofs.Ytefengipbmgpkaa.Print Go.Proofs.YtefengipbmgpkaaW.PrintWords Go.Proofs.YtefengipbmgpkaaW.PrintLast Go.Proofs.YtefengipbmgpkaaW.PrintMore
set_option linter.unusedVariables false
set_option linter.unusedSimpArgs false

def sumS (n : Nat) (b : UInt8) : Nat := (n ^^^ b.toNat) * 1099511628211 % 18446744073709551616
def sumL (l : Bs) (n : Nat) : Nat := l.foldl sumS n
theorem sumS_lt (n : Nat) (b : UInt8) : sumS n b < 18446744073709551616 := by unfold sumS; omega
theorem sumL_cons (b : UInt8) (l : Bs) (n : Nat) : sumL (b :: l) n = sumL l (sumS n b) := List.foldl_cons ..
theorem sumL_lt : ∀ (l : Bs) (n : Nat), n < 18446744073709551616 → sumL l n < 18446744073709551616
  | [], _, h => h
  | b :: l, n, _ => by rw [sumL_cons]; exact sumL_lt l (sumS n b) (sumS_lt n b)
theorem sum_step (n : Nat) (hn : n < 18446744073709551616) (s : ByteArray) (i : Nat) (h : i < (L s).length) :
    IntKind.u64.wrap ((Go.bits .xor .u64 (n : Int) (IntKind.u64.wrap (bt s (i : Int)))) * 1099511628211) = (sumS n (L s)[i] : Int) := by
  have hb := (L s)[i].toNat_lt
  rw [bt_L s i h, u64_in (n := ((L s)[i].toNat : Int)) (by omega) (by omega), xor_u64 _ _ hn (by omega), show (1099511628211 : Int) = ((1099511628211 : Nat) : Int) from rfl, mul_u64]
  unfold sumS
  exact Eq.refl _
theorem ev_sum (s : ByteArray) (hs : s.size ≤ 4611686018427387904) : ∀ (d : Nat) (n i : Nat), n < 18446744073709551616 → i + d = (L s).length →
    Ev (fun k => hash_Sum.l0 k s (n : Int) (s.size : Int) (i : Int)) (sumL ((L s).drop i) n : Int)
  | 0, n, i, hn, hi => by
    have hl := L_length s
    refine Ev.step (f := fun k => some (n : Int)) (fun k => ?_) ?_
    · simp only [hash_Sum.l0]
      rw [if_neg (by omega)]
    · rw [List.drop_of_length_le (by omega)]
      exact Ev.now _
  | d + 1, n, i, hn, hi => by
    have hl := L_length s
    have h : i < (L s).length := by omega
    refine Ev.step (f := fun k => hash_Sum.l0 k s (sumS n (L s)[i] : Int) (s.size : Int) ((i + 1 : Nat) : Int)) (fun k => ?_) ?_
    · simp only [hash_Sum.l0]
      rw [if_pos (by omega), if_pos (by omega), if_pos (by omega), sum_step n hn s i h, wrap64_in (by omega) (by omega)]
      exact Eq.refl _
    · rw [drop_at _ _ h, sumL_cons]
      exact ev_sum s hs d (sumS n (L s)[i]) (i + 1) (sumS_lt _ _) (by omega)
def sumOf (s : ByteArray) : Nat := sumL (L s) 14695981039346656037
theorem sumOf_lt (s : ByteArray) : sumOf s < 18446744073709551616 := by unfold sumOf; exact sumL_lt _ _ (by omega)
theorem ev_Sum (s : ByteArray) (hs : s.size ≤ 4611686018427387904) : Ev (fun k => hash_Sum.f k s) (sumOf s : Int) := by
  have := ev_sum s hs (L s).length 14695981039346656037 0 (by omega) (by omega)
  rw [List.drop_zero] at this
  unfold sumOf hash_Sum.f
  exact this
theorem ev_rsum (s : ByteArray) (hs : s.size ≤ 4611686018427387904) : ∀ (d : Nat) (n i : Nat), n < 18446744073709551616 → i + d = (L s).length →
    Ev (fun k => thwartref09_Sum.l0 k s (n : Int) (i : Int)) (sumL ((L s).drop i) n : Int)
  | 0, n, i, hn, hi => by
    have hl := L_length s
    refine Ev.step (f := fun k => some (n : Int)) (fun k => ?_) ?_
    · simp only [thwartref09_Sum.l0]
      rw [if_neg (by omega)]
    · rw [List.drop_of_length_le (by omega)]
      exact Ev.now _
  | d + 1, n, i, hn, hi => by
    have hl := L_length s
    have h : i < (L s).length := by omega
    refine Ev.step (f := fun k => thwartref09_Sum.l0 k s (sumS n (L s)[i] : Int) ((i + 1 : Nat) : Int)) (fun k => ?_) ?_
    · simp only [thwartref09_Sum.l0]
      rw [if_pos (by omega), if_pos (by omega), sum_step n hn s i h, wrap64_in (by omega) (by omega)]
      exact Eq.refl _
    · rw [drop_at _ _ h, sumL_cons]
      exact ev_rsum s hs d (sumS n (L s)[i]) (i + 1) (sumS_lt _ _) (by omega)
theorem ev_rSum (s : ByteArray) (hs : s.size ≤ 4611686018427387904) : Ev (fun k => thwartref09_Sum.f k s) (sumOf s : Int) := by
  have := ev_rsum s hs (L s).length 14695981039346656037 0 (by omega) (by omega)
  rw [List.drop_zero] at this
  unfold sumOf thwartref09_Sum.f
  exact this

def xsN (n : Nat) : Nat := n ^^^ n / 8589934592
def mixN (n : Nat) : Nat := xsN (xsN (xsN n * 18397679294719823053 % 18446744073709551616) * 14181476777654086739 % 18446744073709551616)
theorem xsN_lt (n : Nat) (h : n < 18446744073709551616) : xsN n < 18446744073709551616 :=
  Nat.xor_lt_two_pow (n := 64) (by simpa using h) (Nat.lt_of_le_of_lt (Nat.div_le_self _ _) (by simpa using h))
theorem mod64 (x : Nat) : x % 18446744073709551616 < 18446744073709551616 := by omega
theorem mixN_lt (n : Nat) : mixN n < 18446744073709551616 := by unfold mixN; exact xsN_lt _ (mod64 _)
theorem xs_u64 (n : Nat) (h : n < 18446744073709551616) : Go.bits .xor .u64 (n : Int) ((n : Int) / 8589934592) = (xsN n : Int) := by
  have e : ((n : Int) / 8589934592) = ((n / 8589934592 : Nat) : Int) := by omega
  rw [e, xor_u64 _ _ h (by omega)]; unfold xsN; exact Eq.refl _
theorem mixStep_N (n c : Nat) (h : n < 18446744073709551616) : mixStep (n : Int) (c : Int) = ((xsN n * c % 18446744073709551616 : Nat) : Int) := by
  rw [mixStep, xs_u64 n h, mul_u64]
theorem mixF_N (n : Nat) (h : n < 18446744073709551616) : mixF (n : Int) = (mixN n : Int) := by
  rw [mixF, show (18397679294719823053 : Int) = ((18397679294719823053 : Nat) : Int) from rfl, mixStep_N n _ h, show (14181476777654086739 : Int) = ((14181476777654086739 : Nat) : Int) from rfl, mixStep_N _ _ (mod64 _), mixEnd, xs_u64 _ (mod64 _)]
  unfold mixN
  exact Eq.refl _
theorem mixN_inj (a b : Nat) (ha : a < 18446744073709551616) (hb : b < 18446744073709551616) (h : mixN a = mixN b) : a = b := by
  unfold mixN at h
  have h1 := xor_shift_inj _ _ (mod64 _) (mod64 _) h
  have h2 := mul_odd_inj _ 11291846944257947611 _ _ (by decide) (xsN_lt _ (mod64 _)) (xsN_lt _ (mod64 _)) h1
  have h3 := xor_shift_inj _ _ (mod64 _) (mod64 _) h2
  have h4 := mul_odd_inj _ 5725274745694666757 _ _ (by decide) (xsN_lt _ ha) (xsN_lt _ hb) h3
  exact xor_shift_inj _ _ ha hb h4
theorem mixF_range (n : Nat) (h : n < 18446744073709551616) : 0 ≤ mixF (n : Int) ∧ mixF (n : Int) < 18446744073709551616 := by
  rw [mixF_N n h]; have := mixN_lt n; omega

theorem ev_awake09 : Ev (fun k => thwartlaw09_awake.f k) true := by
  unfold thwartlaw09_awake.f
  refine Ev.bind (ev_Sum _ (by decide)) ?_
  rw [show (sumOf ⟨#[97]⟩ : Int) = 12638187200555641996 by decide +kernel]
  refine ev_if_pos rfl ?_
  refine Ev.bind (ev_Sum _ (by decide)) ?_
  rw [show (sumOf ⟨#[]⟩ : Int) = 14695981039346656037 by decide +kernel]
  refine ev_if_pos rfl ?_
  refine ev_bind_now rfl ?_
  rw [show mixF 0 = ((mixN 0 : Nat) : Int) from mixF_N 0 (by decide), show mixN 0 = 0 by decide +kernel]
  refine ev_if_pos rfl ?_
  refine ev_bind_now rfl ?_
  rw [show mixF 1 = ((mixN 1 : Nat) : Int) from mixF_N 1 (by decide)]
  exact ev_some fun k => by rw [show (((mixN 1 : Nat) : Int) != 1) = true by decide +kernel]

theorem pureHashMixes : thwartlaw09_HashMixes.Pure := by
  intro a b ha hb
  obtain ⟨a0, a1⟩ := wf_u64 ha
  obtain ⟨b0, b1⟩ := wf_u64 hb
  obtain ⟨n, rfl⟩ := Int.eq_ofNat_of_zero_le a0
  obtain ⟨m, rfl⟩ := Int.eq_ofNat_of_zero_le b0
  apply Ev.rounds
  unfold thwartlaw09_HashMixes.f
  refine Ev.bind ev_awake09 ?_
  refine ev_if_pos rfl ?_
  refine ev_bind_now rfl ?_
  refine ev_bind_now rfl ?_
  refine ev_some fun k => ?_
  rw [mixF_N n (by omega), mixF_N m (by omega)]
  congr 1
  by_cases h : n = m
  · subst h; simp
  · have h2 : mixN n ≠ mixN m := fun e => h (mixN_inj n m (by omega) (by omega) e)
    have e1 : (((mixN n : Nat) : Int) == ((mixN m : Nat) : Int)) = false := by rw [beq_eq_false_iff_ne]; omega
    have e2 : ((n : Int) == (m : Int)) = false := by rw [beq_eq_false_iff_ne]; omega
    rw [e1, e2]; rfl

def hN (s : ByteArray) : Nat := mixN (sumOf s)
theorem hN_lt (s : ByteArray) : hN s < 18446744073709551616 := mixN_lt _
theorem pow30 (j : Nat) (h : j ≤ 30) : 2 ^ j ≤ 1073741824 ∧ 0 < 2 ^ j := ⟨by have := Nat.pow_le_pow_right (n := 2) (by omega) h; simpa using this, Nat.two_pow_pos j⟩
theorem and_i64 (a b : Nat) (ha : a ≤ 1073741824) (hb : b ≤ 1073741824) : Go.bits .and .i64 (a : Int) (b : Int) = ((a &&& b : Nat) : Int) :=
  (bits_nat .i64 31 (by decide) (fun n h0 h1 => by rw [IntKind.wrap_i64]; omega) a b (by omega) (by omega)).1
theorem ev_place_yes (s : ByteArray) (hs : s.size ≤ 4611686018427387904) (j : Nat) (hj : j ≤ 30) :
    Ev (fun k => hash_Place.f k s ((2 ^ j : Nat) : Int)) ((hN s % 2 ^ j : Nat) : Int) := by
  obtain ⟨h1, h0⟩ := pow30 j hj
  have hsub : wrap64 (((2 ^ j : Nat) : Int) - 1) = ((2 ^ j - 1 : Nat) : Int) := by rw [wrap64_in (by omega) (by omega)]; omega
  unfold hash_Place.f
  refine ev_if_neg (by omega) ?_
  refine ev_if_neg (by omega) ?_
  rw [hsub, and_i64 _ _ h1 (by omega), and_of_pow]
  refine Ev.step (f := fun k => (hash_Sum.f k s).bind fun t108 => ((hash_Mix.f t108).bind fun t109 => (some (wrap64 (Go.bits .and .u64 t109 (IntKind.u64.wrap (wrap64 (((2 ^ j : Nat) : Int) - 1)))))))) (fun k => ?_) ?_
  · simp only [hash_Place.j0]
    rw [if_neg (by decide)]
  · refine Ev.bind (ev_Sum s hs) ?_
    refine ev_bind_now rfl ?_
    refine ev_some fun k => ?_
    have hn := hN_lt s
    rw [mixF_N _ (sumOf_lt s), hsub, u64_in (by omega) (by omega), u64_and_nat _ _ (mixN_lt _) (by omega), Nat.and_two_pow_sub_one_eq_mod]
    have h3 : mixN (sumOf s) % 2 ^ j < 2 ^ j := Nat.mod_lt _ h0
    rw [wrap64_in (by omega) (by omega)]
    unfold hN
    exact Eq.refl _
theorem ev_place_no (s : ByteArray) (many : Int) (h : ∀ j, j ≤ 30 → many ≠ ((2 ^ j : Nat) : Int)) : Ev (fun k => hash_Place.f k s many) 0 := by
  have tr : ∀ b, b = true → Ev (fun k => hash_Place.j0 k s many b) 0 := by
    intro b hb
    subst hb
    refine Ev.step (f := fun k => some 0) (fun k => ?_) (Ev.now _)
    simp only [hash_Place.j0]
    rw [if_pos trivial]
  unfold hash_Place.f
  by_cases h1 : many < 1
  · exact ev_if_pos h1 (tr _ rfl)
  refine ev_if_neg h1 ?_
  by_cases h2 : many > 1073741824
  · exact ev_if_pos h2 (tr _ rfl)
  refine ev_if_neg h2 ?_
  apply tr
  obtain ⟨n, rfl⟩ := Int.eq_ofNat_of_zero_le (show 0 ≤ many by omega)
  have hsub : wrap64 ((n : Int) - 1) = ((n - 1 : Nat) : Int) := by rw [wrap64_in (by omega) (by omega)]; omega
  rw [hsub, and_i64 _ _ (by omega) (by omega), bne_iff_ne]
  intro e
  have e2 : n &&& (n - 1) = 0 := by omega
  have e3 := pow_of_and n e2 (by omega)
  have hl : n.log2 ≤ 30 := by
    rcases Nat.lt_or_ge 30 n.log2 with h4 | h4
    · have : 2 ^ 31 ≤ 2 ^ n.log2 := Nat.pow_le_pow_right (by omega) h4
      omega
    · exact h4
  exact h n.log2 hl (by omega)
theorem rmix_N (n : Nat) (h : n < 18446744073709551616) : thwartref09_Mix.f (n : Int) = some (mixN n : Int) := by
  have d : ∀ m : Nat, m < 18446744073709551616 → IntKind.u64.wrap (Int.tdiv (m : Int) 8589934592) = (m : Int) / 8589934592 := fun m hm => by
    rw [Int.tdiv_eq_ediv_of_nonneg (by omega), u64_in (by omega) (by omega)]
  have st : ∀ m : Nat, m < 18446744073709551616 → Go.bits .xor .u64 (m : Int) (IntKind.u64.wrap (Int.tdiv (m : Int) 8589934592)) = (xsN m : Int) := fun m hm => by rw [d m hm, xs_u64 m hm]
  unfold thwartref09_Mix.f mixN
  rw [st n h, show (18397679294719823053 : Int) = ((18397679294719823053 : Nat) : Int) from rfl, mul_u64, st _ (mod64 _), show (14181476777654086739 : Int) = ((14181476777654086739 : Nat) : Int) from rfl, mul_u64, st _ (mod64 _)]
theorem dbl (i : Nat) (h : i ≤ 30) : wrap64 (2 * ((2 ^ i : Nat) : Int)) = ((2 ^ (i + 1) : Nat) : Int) := by
  obtain ⟨h1, h0⟩ := pow30 i h
  rw [wrap64_in (by omega) (by omega), Nat.pow_succ]; omega
theorem ev_rplace_yes (s : ByteArray) (hs : s.size ≤ 4611686018427387904) (j : Nat) (hj : j ≤ 30) : ∀ (d i : Nat), i + d = j →
    Ev (fun k => thwartref09_Place.l0 k s ((2 ^ j : Nat) : Int) ((2 ^ i : Nat) : Int)) ((hN s % 2 ^ j : Nat) : Int)
  | 0, i, e => by
    obtain rfl : i = j := by omega
    obtain ⟨h1, h0⟩ := pow30 i hj
    refine Ev.step (f := fun k => ((thwartref09_Sum.f k s).bind fun t110 => ((thwartref09_Mix.f t110).bind fun t111 => (if (IntKind.u64.wrap (((2 ^ i : Nat) : Int))) = 0 then (none) else (some (wrap64 (Int.tmod t111 (IntKind.u64.wrap (((2 ^ i : Nat) : Int)))))))))) (fun k => ?_) ?_
    · simp only [thwartref09_Place.l0]
      rw [if_pos (by omega), if_pos trivial]
    · refine Ev.bind (ev_rSum s hs) ?_
      refine ev_bind_now (rmix_N _ (sumOf_lt s)) ?_
      rw [u64_in (by omega) (by omega)]
      refine ev_if_neg (by omega) ?_
      refine ev_some fun k => ?_
      have h3 : mixN (sumOf s) % 2 ^ i < 2 ^ i := Nat.mod_lt _ h0
      rw [Int.tmod_eq_emod_of_nonneg (by omega), ← Int.natCast_emod, wrap64_in (by omega) (by omega)]
      unfold hN
      exact Eq.refl _
  | d + 1, i, e => by
    obtain ⟨h1, h0⟩ := pow30 i (by omega)
    have hne : 2 ^ i ≠ 2 ^ j := fun e2 => by have := Nat.pow_lt_pow_right (a := 2) (by omega) (show i < j by omega); omega
    refine Ev.step (f := fun k => thwartref09_Place.l0 k s ((2 ^ j : Nat) : Int) ((2 ^ (i + 1) : Nat) : Int)) (fun k => ?_) (ev_rplace_yes s hs j hj d (i + 1) (by omega))
    simp only [thwartref09_Place.l0]
    rw [if_pos (by omega), if_neg (by omega), dbl i (by omega)]
theorem ev_rplace_no (s : ByteArray) (many : Int) (h : ∀ j, j ≤ 30 → many ≠ ((2 ^ j : Nat) : Int)) : ∀ (d i : Nat), i + d = 31 →
    Ev (fun k => thwartref09_Place.l0 k s many ((2 ^ i : Nat) : Int)) 0
  | 0, i, e => by
    obtain rfl : i = 31 := by omega
    refine Ev.step (f := fun k => some 0) (fun k => ?_) (Ev.now _)
    simp only [thwartref09_Place.l0]
    rw [if_neg (by decide)]
  | d + 1, i, e => by
    obtain ⟨h1, h0⟩ := pow30 i (by omega)
    have hne := h i (by omega)
    refine Ev.step (f := fun k => thwartref09_Place.l0 k s many ((2 ^ (i + 1) : Nat) : Int)) (fun k => ?_) (ev_rplace_no s many h d (i + 1) (by omega))
    simp only [thwartref09_Place.l0]
    rw [if_pos (by omega), if_neg (by omega), dbl i (by omega)]
theorem ev_places (s : ByteArray) (hs : s.size ≤ 4611686018427387904) (many : Int) : ∃ r, Ev (fun k => hash_Place.f k s many) r ∧ Ev (fun k => thwartref09_Place.f k s many) r := by
  by_cases h : ∃ j, j ≤ 30 ∧ many = ((2 ^ j : Nat) : Int)
  · obtain ⟨j, hj, rfl⟩ := h
    exact ⟨_, ev_place_yes s hs j hj, ev_rplace_yes s hs j hj j 0 (by omega)⟩
  · have h2 : ∀ j, j ≤ 30 → many ≠ ((2 ^ j : Nat) : Int) := fun j hj e => h ⟨j, hj, e⟩
    exact ⟨_, ev_place_no s many h2, ev_rplace_no s many h2 31 0 (by omega)⟩

theorem pureHashSums : thwartlaw09_HashSums.Pure := by
  intro s n many hs hn hm
  obtain ⟨n0, n1⟩ := wf_u64 hn
  obtain ⟨m, rfl⟩ := Int.eq_ofNat_of_zero_le n0
  apply Ev.rounds
  unfold thwartlaw09_HashSums.f
  refine Ev.bind ev_awake09 ?_
  by_cases hz : (s.size : Int) > 2000
  · exact ev_if_pos hz (Ev.now _)
  refine ev_if_neg hz ?_
  refine ev_if_pos rfl ?_
  refine Ev.bind (ev_Sum s (by omega)) ?_
  refine Ev.bind (ev_rSum s (by omega)) ?_
  refine ev_if_pos rfl ?_
  refine ev_bind_now rfl ?_
  refine ev_bind_now (rmix_N m (by omega)) ?_
  rw [mixF_N m (by omega)]
  refine ev_if_pos rfl ?_
  obtain ⟨r, h1, h2⟩ := ev_places s (by omega) many
  refine Ev.bind h1 ?_
  refine Ev.bind h2 ?_
  exact ev_some fun k => by simp

theorem shl_one (j : Nat) (h : j ≤ 30) : shl .i64 1 (j : Int) = ((2 ^ j : Nat) : Int) := by
  obtain ⟨h1, h2⟩ := pow30 j h
  unfold shl
  rw [show min (j : Int).toNat IntKind.i64.bits = j by simp [IntKind.bits]; omega, IntKind.wrap_i64]
  have : (1 : Int) * 2 ^ j = ((2 ^ j : Nat) : Int) := by simp
  rw [this]; omega
theorem place_end (H j : Nat) (hj : j ≤ 29) : Ev (fun _ => if true = true then (if ((H % 2 ^ j : Nat) : Int) ≥ 0 then (if ((H % 2 ^ j : Nat) : Int) < ((2 ^ j : Nat) : Int) then (if ((H % 2 ^ (j + 1) : Nat) : Int) = ((H % 2 ^ j : Nat) : Int) then (some true) else (some (((H % 2 ^ (j + 1) : Nat) : Int) == (wrap64 (((H % 2 ^ j : Nat) : Int) + ((2 ^ j : Nat) : Int)))))) else (some false)) else (some false)) else (some false)) true := by
  obtain ⟨h1, h2⟩ := pow30 j (by omega)
  have hm : H % 2 ^ j < 2 ^ j := Nat.mod_lt _ h2
  refine ev_if_pos rfl ?_
  refine ev_if_pos (by omega) ?_
  refine ev_if_pos (by omega) ?_
  have e : H % 2 ^ (j + 1) = H % 2 ^ j + 2 ^ j * (H / 2 ^ j % 2) := by rw [Nat.pow_succ, Nat.mod_mul]
  rcases Nat.mod_two_eq_zero_or_one (H / 2 ^ j) with h3 | h3
  · refine ev_if_pos ?_ (Ev.now _)
    rw [e, h3]; simp
  · rw [e, h3, Nat.mul_one]
    refine ev_if_neg (by omega) ?_
    refine ev_some fun k => ?_
    rw [wrap64_in (by omega) (by omega)]
    simp
theorem pureHashPlaces : thwartlaw09_HashPlaces.Pure := by
  intro s p hs hp
  apply Ev.rounds
  unfold thwartlaw09_HashPlaces.f
  refine Ev.bind ev_awake09 ?_
  have tr : ∀ b, b = true → Ev (fun k => thwartlaw09_HashPlaces.j0 k s p true b) true := by
    intro b hb
    subst hb
    refine Ev.step (f := fun k => some true) (fun k => ?_) (Ev.now _)
    simp only [thwartlaw09_HashPlaces.j0]
    rw [if_pos trivial]
  by_cases hz : (s.size : Int) > 2000
  · exact ev_if_pos hz (tr _ rfl)
  refine ev_if_neg hz ?_
  by_cases h0 : p < 0
  · exact ev_if_pos h0 (tr _ rfl)
  refine ev_if_neg h0 ?_
  by_cases h29 : p > 29
  · exact tr _ (decide_eq_true h29)
  rw [decide_eq_false h29]
  obtain ⟨j, rfl⟩ := Int.eq_ofNat_of_zero_le (show 0 ≤ p by omega)
  obtain ⟨h1, h2⟩ := pow30 j (by omega)
  have hsh := shl_one j (by omega)
  refine Ev.step (f := fun k => ((hash_Place.f k s ((2 ^ j : Nat) : Int)).bind fun t120 => ((hash_Place.f k s ((2 ^ (j + 1) : Nat) : Int)).bind fun t121 => (if true = true then (if t120 ≥ 0 then (if t120 < ((2 ^ j : Nat) : Int) then (if t121 = t120 then (some true) else (some (t121 == (wrap64 (t120 + ((2 ^ j : Nat) : Int)))))) else (some false)) else (some false)) else (some false))))) (fun k => ?_) ?_
  · simp only [thwartlaw09_HashPlaces.j0]
    rw [if_neg (by decide), if_pos (by omega), hsh, dbl j (by omega)]
  · refine Ev.bind (ev_place_yes s (by omega) j (by omega)) ?_
    refine Ev.bind (ev_place_yes s (by omega) (j + 1) (by omega)) ?_
    generalize hN s = H
    exact place_end H j (by omega)
end Go.Proofs.Ytefengipbmgpkaa.Thw
