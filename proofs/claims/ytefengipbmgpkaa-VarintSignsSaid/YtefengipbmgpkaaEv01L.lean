/- Layer 1: the six statements. -/
import Derived.Test.YtefengipbmgpkaaPrint3
import Derived.Test.YtefengipbmgpkaaPrint5
import Derived.Test.YtefengipbmgpkaaPrint4
import Derived.Test.YtefengipbmgpkaaEv01r
namespace Go.Proofs.Ytefengipbmgpkaa.Thw
open Go Go.RowKit Go.Proofs.Ytefengipbmgpkaa.Print Go.Proofs.YtefengipbmgpkaaW.PrintWords Go.Proofs.YtefengipbmgpkaaW.PrintLast Go.Proofs.YtefengipbmgpkaaW.PrintMore
set_option linter.unusedVariables false
set_option linter.unusedSimpArgs false

/-! ### Signs -/
def zigS (n : Int) : Int := if 0 ≤ n then 2 * n else -2 * n - 1
def zagS (n : Int) : Int := if n % 2 = 0 then n / 2 else -(n / 2) - 1
theorem xor_ones_aux (a b : Int) (ha : 0 ≤ a) (ha2 : a < 18446744073709551616) (hb : BitVec.ofInt 64 b = BitVec.allOnes 64) :
    (((BitVec.ofInt 64 a ^^^ BitVec.ofInt 64 b).toNat : Nat) : Int) = 18446744073709551615 - a := by
  rw [hb, BitVec.xor_allOnes, BitVec.toNat_not, BitVec.toNat_ofInt, Int.emod_eq_of_lt ha (by simpa using ha2)]
  omega
theorem xor_zero_aux (a : Int) (ha : 0 ≤ a) (ha2 : a < 18446744073709551616) : (((BitVec.ofInt 64 a ^^^ BitVec.ofInt 64 0).toNat : Nat) : Int) = a := by
  rw [show BitVec.ofInt 64 0 = 0#64 from rfl, BitVec.xor_zero, BitVec.toNat_ofInt, Int.emod_eq_of_lt ha (by simpa using ha2)]
  omega
theorem xor_ones_u64 (a b : Int) (ha : 0 ≤ a) (ha2 : a < 18446744073709551616) (hb : BitVec.ofInt 64 b = BitVec.allOnes 64) : Go.bits .xor .u64 a b = IntKind.u64.wrap (18446744073709551615 - a) := by
  rw [← xor_ones_aux a b ha ha2 hb]
  unfold Go.bits
  exact Eq.refl _
theorem xor_ones_i64 (a b : Int) (ha : 0 ≤ a) (ha2 : a < 18446744073709551616) (hb : BitVec.ofInt 64 b = BitVec.allOnes 64) : Go.bits .xor .i64 a b = IntKind.i64.wrap (18446744073709551615 - a) := by
  rw [← xor_ones_aux a b ha ha2 hb]
  unfold Go.bits
  exact Eq.refl _
theorem xor_zero_u64 (a : Int) (ha : 0 ≤ a) (ha2 : a < 18446744073709551616) : Go.bits .xor .u64 a 0 = IntKind.u64.wrap a := by
  conv => rhs; rw [← xor_zero_aux a ha ha2]
  unfold Go.bits
  exact Eq.refl _
theorem xor_zero_i64 (a : Int) (ha : 0 ≤ a) (ha2 : a < 18446744073709551616) : Go.bits .xor .i64 a 0 = IntKind.i64.wrap a := by
  conv => rhs; rw [← xor_zero_aux a ha ha2]
  unfold Go.bits
  exact Eq.refl _
theorem zig_f (n : Int) (h0 : -9223372036854775808 ≤ n) (h1 : n ≤ 9223372036854775807) : varint_Zig.f n = some (zigS n) := by
  unfold varint_Zig.f zigS
  by_cases h : 0 ≤ n
  · rw [if_pos h, show n / 9223372036854775808 = 0 by omega, u64_in (n := n) (by omega) (by omega), u64_in (n := n * 2) (by omega) (by omega), show IntKind.u64.wrap 0 = 0 by decide, xor_zero_u64 _ (by omega) (by omega), u64_in (by omega) (by omega)]
    congr 1; omega
  · rw [if_neg h, show n / 9223372036854775808 = -1 by omega, show IntKind.u64.wrap (-1) = 18446744073709551615 by decide]
    have e : IntKind.u64.wrap (IntKind.u64.wrap n * 2) = 2 * n + 18446744073709551616 := by rw [IntKind.wrap_u64, IntKind.wrap_u64]; omega
    rw [e, xor_ones_u64 _ _ (by omega) (by omega) (by decide), u64_in (by omega) (by omega)]
    congr 1; omega
theorem and_one (n : Int) (h0 : 0 ≤ n) (h1 : n < 18446744073709551616) : Go.bits .and .u64 n 1 = n % 2 := by
  obtain ⟨m, rfl⟩ := Int.eq_ofNat_of_zero_le h0
  rw [show (1 : Int) = ((1 : Nat) : Int) from rfl, u64_and_nat m 1 (by omega) (by omega), Nat.and_one_is_mod]
  omega
theorem zag_f (n : Int) (h0 : 0 ≤ n) (h1 : n < 18446744073709551616) : varint_Zag.f n = some (zagS n) := by
  unfold varint_Zag.f zagS
  rw [and_one n h0 h1, wrap64_in (n := n / 2) (by omega) (by omega), wrap64_in (n := n % 2) (by omega) (by omega), wrap64_in (n := -(n % 2)) (by omega) (by omega)]
  by_cases h : n % 2 = 0
  · rw [if_pos h, h, show -(0 : Int) = 0 from rfl, xor_zero_i64 _ (by omega) (by omega), IntKind.wrap_i64]
    congr 1; omega
  · rw [if_neg h, show n % 2 = 1 by omega, xor_ones_i64 _ _ (by omega) (by omega) (by decide), IntKind.wrap_i64]
    congr 1; omega
theorem rzig_f (n : Int) (h0 : -9223372036854775808 ≤ n) (h1 : n ≤ 9223372036854775807) : thwartref01_Zig.f n = some (zigS n) := by
  unfold thwartref01_Zig.f zigS
  by_cases h : n ≥ 0
  · rw [if_pos h, if_pos h, u64_in (n := n) (by omega) (by omega), u64_in (by omega) (by omega)]
  · rw [if_neg h, if_neg (by omega), wrap64_in (n := n + 1) (by omega) (by omega), wrap64_in (by omega) (by omega), u64_in (n := -(n + 1)) (by omega) (by omega), u64_in (n := 2 * -(n + 1)) (by omega) (by omega), u64_in (by omega) (by omega)]
    congr 1; omega
theorem rzag_f (n : Int) (h0 : 0 ≤ n) (h1 : n < 18446744073709551616) : thwartref01_Zag.f n = some (zagS n) := by
  unfold thwartref01_Zag.f zagS
  rw [Int.tmod_eq_emod_of_nonneg h0, Int.tdiv_eq_ediv_of_nonneg h0, u64_in (n := n / 2) (by omega) (by omega), wrap64_in (n := n / 2) (by omega) (by omega)]
  by_cases h : n % 2 = 0
  · rw [if_pos h, if_pos h]
  · rw [if_neg h, if_neg h, wrap64_in (n := -(n / 2)) (by omega) (by omega), wrap64_in (by omega) (by omega)]
theorem zigS_range (n : Int) (h0 : -9223372036854775808 ≤ n) (h1 : n ≤ 9223372036854775807) : 0 ≤ zigS n ∧ zigS n < 18446744073709551616 := by unfold zigS; split <;> omega
theorem zagS_range (n : Int) (h0 : 0 ≤ n) (h1 : n < 18446744073709551616) : -9223372036854775808 ≤ zagS n ∧ zagS n ≤ 9223372036854775807 := by unfold zagS; split <;> omega
theorem zag_zig (n : Int) : zagS (zigS n) = n := by unfold zigS zagS; split <;> split <;> omega
theorem zig_zag (n : Int) (h0 : 0 ≤ n) : zigS (zagS n) = n := by unfold zigS zagS; split <;> split <;> omega

theorem ev_awake01 : Ev (fun k => thwartlaw01_awake.f k) true := by
  unfold thwartlaw01_awake.f
  refine Ev.bind (ev_Take _ (by decide)) ?_
  rw [show TK (takeS (L ⟨#[172, 2, 120]⟩)) = (300, B [120], 0) by rw [show takeS (L ⟨#[172, 2, 120]⟩) = (300, [120], 0) by decide +kernel]; rfl]
  refine ev_bind_now (varint_Put_N 300 (by omega)) ?_
  simp only [toList_L, L_B]
  refine ev_if_pos (by decide +kernel) ?_
  refine ev_yes ?_
  refine ev_yes ?_
  refine ev_yes ?_
  refine ev_bind_now (zig_f (-1) (by omega) (by omega)) ?_
  refine ev_if_pos (by decide) ?_
  refine ev_bind_now (zag_f 1 (by omega) (by omega)) ?_
  refine ev_if_pos (by decide) ?_
  refine ev_bind_now (varint_Text_B _ (by decide)) ?_
  exact ev_some fun k => by rw [L_B]; decide +kernel

theorem pureVarintLays : thwartlaw01_VarintLays.Pure := by
  intro n m s hn hm hs
  obtain ⟨n0, n1⟩ := wf_u64 hn
  obtain ⟨m0, m1⟩ := wf_i64 hm
  obtain ⟨a, rfl⟩ := Int.eq_ofNat_of_zero_le n0
  apply Ev.rounds
  unfold thwartlaw01_VarintLays.f
  refine Ev.bind ev_awake01 ?_
  by_cases hz : (s.size : Int) > 1000
  · exact ev_if_pos hz (Ev.now _)
  refine ev_if_neg hz ?_
  refine ev_yes ?_
  refine ev_bind_now (varint_Put_N a (by omega)) ?_
  refine Ev.bind (ev_rPutS a (by omega)) ?_
  refine ev_yes ?_
  refine ev_bind_now (zig_f m m0 m1) ?_
  refine ev_bind_now (rzig_f m m0 m1) ?_
  refine ev_yes ?_
  refine ev_bind_now (zag_f _ n0 n1) ?_
  refine ev_bind_now (rzag_f _ n0 n1) ?_
  refine ev_yes ?_
  refine ev_bind_now (varint_Text_B s (by omega)) ?_
  refine Ev.bind (ev_rText s (by omega)) ?_
  exact ev_some fun k => by rw [beq_self_eq_true]

theorem pureVarintTakes : thwartlaw01_VarintTakes.Pure := by
  intro b hb
  apply Ev.rounds
  unfold thwartlaw01_VarintTakes.f
  refine Ev.bind ev_awake01 ?_
  by_cases hz : (b.size : Int) > 1000
  · exact ev_if_pos hz (Ev.now _)
  refine ev_if_neg hz ?_
  refine Ev.bind (ev_Take b (by omega)) ?_
  refine Ev.bind (ev_rTake b (by omega)) ?_
  refine Ev.bind (ev_OfText b (by omega)) ?_
  refine Ev.bind (ev_rOfText b (by omega)) ?_
  refine ev_yes ?_
  refine ev_yes ?_
  refine ev_yes ?_
  refine ev_yes ?_
  refine ev_yes ?_
  refine ev_yes ?_
  exact ev_some fun k => by rw [beq_self_eq_true]

theorem pureVarintOne : thwartlaw01_VarintOne.Pure := by
  intro b hb
  have hl := L_length b
  apply Ev.rounds
  unfold thwartlaw01_VarintOne.f
  refine Ev.bind ev_awake01 ?_
  by_cases hz : (b.size : Int) > 500
  · exact ev_if_pos hz (Ev.now _)
  refine ev_if_neg hz ?_
  refine Ev.bind (ev_Take b (by omega)) ?_
  have ht := takeS_told (L b)
  generalize takeS (L b) = r at ht ⊢
  obtain ⟨n, rest, e⟩ := r
  rcases ht with ⟨h1, h2, h3, h4, h5⟩ | h | h
  · simp only [TK] at h1 h2 h3 h4 h5 ⊢
    have hp := putS_length n
    refine ev_if_pos h1 ?_
    refine ev_yes ?_
    refine ev_bind_now (varint_Put_N n h3) ?_
    simp only [B_size]
    refine ev_if_pos (by omega) ?_
    refine ev_if_pos (by rw [← B_append, toList_L, toList_L, L_B, h2]) ?_
    refine ev_some fun k => ?_
    rw [wrap64_in (by omega) (by omega), decide_eq_true (by omega)]
  · injection h with h1 h; injection h with h2 h3; subst h1; subst h2; subst h3
    simp only [TK]
    refine ev_if_neg (by decide) ?_
    refine ev_yes ?_
    refine ev_yes ?_
    refine ev_if_pos (by rw [toList_L, L_B]) ?_
    refine ev_if_neg (by decide) ?_
    exact Ev.now _
  · injection h with h1 h; injection h with h2 h3; subst h1; subst h2; subst h3
    simp only [TK]
    refine ev_if_neg (by decide) ?_
    refine ev_yes ?_
    refine ev_yes ?_
    refine ev_if_pos (by rw [toList_L, L_B]) ?_
    refine ev_yes ?_
    exact Ev.now _

theorem pureVarintBack : thwartlaw01_VarintBack.Pure := by
  intro n s rest hn hs hr
  obtain ⟨n0, n1⟩ := wf_u64 hn
  obtain ⟨a, rfl⟩ := Int.eq_ofNat_of_zero_le n0
  have hl := L_length s
  have hl2 := L_length rest
  apply Ev.rounds
  unfold thwartlaw01_VarintBack.f
  refine Ev.bind ev_awake01 ?_
  have tr : ∀ b, b = true → Ev (fun k => thwartlaw01_VarintBack.j0 k (a : Int) s rest true b) true := by
    intro b hb
    subst hb
    refine Ev.step (f := fun k => some true) (fun k => ?_) (Ev.now _)
    simp only [thwartlaw01_VarintBack.j0]
    rw [if_pos trivial]
  by_cases h1 : (s.size : Int) > 500
  · exact ev_if_pos h1 (tr _ rfl)
  refine ev_if_neg h1 ?_
  by_cases h2 : (rest.size : Int) > 500
  · exact tr _ (decide_eq_true h2)
  rw [decide_eq_false h2]
  have hp := putS_length a
  have hp2 := putS_length s.size
  refine Ev.step (fun k => by simp only [thwartlaw01_VarintBack.j0]; rw [if_neg (by decide)]) ?_
  refine ev_bind_now (varint_Put_N a (by omega)) ?_
  simp only [B_size]
  refine ev_if_pos (by omega) ?_
  have e1 : TK (takeS (L (B (putS a) ++ rest))) = ((a : Int), rest, 0) := by
    rw [L_append, L_B, takeS_put a (by omega)]
    simp only [TK, B_L]
  have hev := ev_Take (B (putS a) ++ rest) (by simp only [ByteArray.size_append, B_size]; omega)
  rw [e1] at hev
  refine Ev.bind hev ?_
  refine ev_bind_now (varint_Text_B s (by omega)) ?_
  have ht : (textS (L s)).length = (putS (L s).length).length + (L s).length := by simp [textS]
  have hp3 := putS_length (L s).length
  simp only [B_size]
  refine ev_if_pos (by omega) ?_
  have e2 : OT (ofTextS (L (B (textS (L s)) ++ rest))) = (s, rest, 0) := by
    rw [L_append, L_B, ofTextS_text _ _ (by omega)]
    simp only [OT, B_L]
  have hev2 := ev_OfText (B (textS (L s)) ++ rest) (by simp only [ByteArray.size_append, B_size]; omega)
  rw [e2] at hev2
  refine Ev.bind hev2 ?_
  refine ev_yes ?_
  refine ev_yes ?_
  refine ev_yes ?_
  refine ev_yes ?_
  refine ev_yes ?_
  refine ev_yes ?_
  exact Ev.now _

theorem pureVarintSigns : thwartlaw01_VarintSigns.Pure := by
  intro a b n ha hb hn
  obtain ⟨n0, n1⟩ := wf_u64 hn
  obtain ⟨a0, a1⟩ := wf_i64 ha
  obtain ⟨b0, b1⟩ := wf_i64 hb
  obtain ⟨z0, z1⟩ := zigS_range a a0 a1
  obtain ⟨y0, y1⟩ := zagS_range n n0 n1
  apply Ev.rounds
  unfold thwartlaw01_VarintSigns.f
  refine Ev.bind ev_awake01 ?_
  refine ev_bind_now (zig_f a a0 a1) ?_
  refine ev_bind_now (zag_f _ z0 z1) ?_
  refine ev_if_pos (zag_zig a) ?_
  refine ev_bind_now (zag_f n n0 n1) ?_
  refine ev_bind_now (zig_f _ y0 y1) ?_
  rw [zig_zag n n0, bne_self_eq_false]
  refine Ev.step (fun k => by simp only [thwartlaw01_VarintSigns.j0]; rw [if_neg (by decide)]) ?_
  have tr : ∀ c, c = true → Ev (fun k => thwartlaw01_VarintSigns.j1 k a b true c) true := by
    intro c hc
    subst hc
    refine Ev.step (f := fun k => some true) (fun k => ?_) (Ev.now _)
    simp only [thwartlaw01_VarintSigns.j1]
    rw [if_pos trivial]
  by_cases h1 : a < 0
  · exact ev_if_pos h1 (tr _ rfl)
  refine ev_if_neg h1 ?_
  by_cases h2 : b < 0
  · exact tr _ (decide_eq_true h2)
  rw [decide_eq_false h2]
  refine Ev.step (fun k => by simp only [thwartlaw01_VarintSigns.j1]; rw [if_neg (by decide)]) ?_
  refine ev_yes ?_
  refine ev_bind_now (zig_f a a0 a1) ?_
  refine ev_bind_now (zig_f b b0 b1) ?_
  have ea : zigS a = 2 * a := by unfold zigS; rw [if_pos (by omega)]
  have eb : zigS b = 2 * b := by unfold zigS; rw [if_pos (by omega)]
  rw [ea, eb]
  refine ev_if_pos ?_ ?_
  · by_cases h : a < b
    · rw [decide_eq_true h, decide_eq_true (by omega)]; rfl
    · rw [decide_eq_false h, decide_eq_false (by omega)]; rfl
  · rw [wrap64_in (n := -a) (by omega) (by omega), wrap64_in (by omega) (by omega)]
    refine ev_bind_now (zig_f _ (by omega) (by omega)) ?_
    have ec : zigS (-a - 1) = 2 * a + 1 := by unfold zigS; rw [if_neg (by omega)]; omega
    rw [ec, u64_in (by omega) (by omega)]
    exact ev_some fun k => by rw [beq_self_eq_true]

theorem pureVarintCuts : thwartlaw01_VarintCuts.Pure := by
  intro n s c hn hs hc
  obtain ⟨n0, n1⟩ := wf_u64 hn
  obtain ⟨a, rfl⟩ := Int.eq_ofNat_of_zero_le n0
  have hl := L_length s
  apply Ev.rounds
  unfold thwartlaw01_VarintCuts.f
  refine Ev.bind ev_awake01 ?_
  have tr : ∀ b, b = true → Ev (fun k => thwartlaw01_VarintCuts.j0 k (a : Int) s c true b) true := by
    intro b hb
    subst hb
    refine Ev.step (f := fun k => some true) (fun k => ?_) (Ev.now _)
    simp only [thwartlaw01_VarintCuts.j0]
    rw [if_pos trivial]
  by_cases h1 : (s.size : Int) > 500
  · exact ev_if_pos h1 (tr _ rfl)
  refine ev_if_neg h1 ?_
  by_cases h2 : c < 0
  · exact tr _ (decide_eq_true h2)
  rw [decide_eq_false h2]
  obtain ⟨d, rfl⟩ := Int.eq_ofNat_of_zero_le (show 0 ≤ c by omega)
  refine Ev.step (fun k => by simp only [thwartlaw01_VarintCuts.j0]; rw [if_neg (by decide)]) ?_
  refine ev_bind_now (varint_Put_N a (by omega)) ?_
  refine ev_bind_now (varint_Text_B s (by omega)) ?_
  have hp0 := putS_pos a
  have hp1 := putS_length a
  have ht : (textS (L s)).length = (putS (L s).length).length + (L s).length := by simp [textS]
  have hq0 := putS_pos (L s).length
  have hq1 := putS_length (L s).length
  simp only [B_size]
  refine ev_if_neg (by omega) ?_
  rw [show (((textS (L s)).length : Int) == 0) = false by rw [beq_eq_false_iff_ne]; omega]
  have m1 : Int.tmod (d : Int) ((putS a).length : Int) = ((d % (putS a).length : Nat) : Int) := by rw [Int.tmod_eq_emod_of_nonneg (by omega)]; omega
  have m2 : Int.tmod (d : Int) ((textS (L s)).length : Int) = ((d % (textS (L s)).length : Nat) : Int) := by rw [Int.tmod_eq_emod_of_nonneg (by omega)]; omega
  have l1 : d % (putS a).length < (putS a).length := Nat.mod_lt _ hp0
  have l2 : d % (textS (L s)).length < (textS (L s)).length := Nat.mod_lt _ (by omega)
  refine Ev.step (fun k => by simp only [thwartlaw01_VarintCuts.j1]; rw [if_neg (by decide)]) ?_
  simp only [B_size, m1, m2, Int.toNat_natCast]
  generalize d % (putS a).length = x at l1
  generalize d % (textS (L s)).length = y at l2
  refine ev_if_neg (by omega) ?_
  refine ev_if_pos (by omega) ?_
  refine ev_if_pos (by omega) ?_
  have hev := ev_Take ((B (putS a)).extract 0 x) (by rw [extract_front, B_size, List.length_take]; omega)
  rw [L_extract_front, L_B, takeS_cut a (by omega) x l1] at hev
  refine Ev.bind hev ?_
  refine ev_if_neg (by omega) ?_
  refine ev_if_pos (by omega) ?_
  refine ev_if_pos (by omega) ?_
  have hev2 := ev_OfText ((B (textS (L s))).extract 0 y) (by rw [extract_front, B_size, List.length_take]; omega)
  rw [L_extract_front, L_B, ofTextS_cut (L s) (by omega) y l2] at hev2
  refine Ev.bind hev2 ?_
  refine ev_yes ?_
  refine ev_yes ?_
  exact Ev.now _
end Go.Proofs.Ytefengipbmgpkaa.Thw
