/- Layer 2, the references: they come to the same plain words. -/
import Derived.Test.YtgampcbjmdgciaaDoorPrint5
import Derived.Test.YtgampcbjmdgciaaDoorPrint7
import Derived.Test.YtgampcbjmdgciaaDoorEv02
namespace Go.Proofs.YtgampcbjmdgciaaDoor.Thw
open Go Go.RowKit Go.Proofs.YtgampcbjmdgciaaDoor.Print Go.Proofs.YtgampcbjmdgciaaDoorW.PrintWords Go.Proofs.YtgampcbjmdgciaaDoorW.PrintLast Go.Proofs.YtgampcbjmdgciaaDoorW.PrintMore
set_option linter.unusedVariables false
set_option linter.unusedSimpArgs false

theorem rstep_N (c : Nat) (h : c < 4294967296) : thwartref02_step.f (c : Int) = some ((stepN c : Nat) : Int) := by
  have e1 : Int.tmod (c : Int) 2 = ((c % 2 : Nat) : Int) := by rw [Int.tmod_eq_emod_of_nonneg (by omega)]; omega
  have e2 : (Int.tdiv (c : Int) 2) % 4294967296 = ((c / 2 : Nat) : Int) := by rw [Int.tdiv_eq_ediv_of_nonneg (by omega)]; omega
  unfold thwartref02_step.f stepN
  rw [e1, e2]
  rcases Nat.mod_two_eq_zero_or_one c with h3 | h3
  · rw [h3, if_neg (by decide), if_neg (by omega), Nat.xor_zero]
  · rw [h3, if_pos (by decide), if_pos rfl, show (2197175160 : Int) = ((2197175160 : Nat) : Int) from rfl, xor_u32 _ _ (by omega) (by omega)]
    unfold polyN
    exact Eq.refl _
theorem ev_rin (b : ByteArray) (i : Nat) (r : Int) : ∀ (d n c : Nat), n + d = 8 → c < 4294967296 → Ev (fun k => thwartref02_More.l0 k b ((stepsN d c : Nat) : Int) (wrap64 ((i : Int) + 1))) r →
    Ev (fun k => thwartref02_More.l1 k b (c : Int) (i : Int) (n : Int)) r
  | 0, n, c, e, h, k0 => by
    refine Ev.step (f := fun k => thwartref02_More.l0 k b (c : Int) (wrap64 ((i : Int) + 1))) (fun k => ?_) k0
    simp only [thwartref02_More.l1]
    rw [if_neg (by omega)]
  | d + 1, n, c, e, h, k0 => by
    have hst : stepsN d (stepN c) = stepsN (d + 1) c := by
      clear k0 e
      induction d with
      | zero => rfl
      | succ d ih => rw [stepsN, ih]; rfl
    refine Ev.step (f := fun k => thwartref02_More.l1 k b ((stepN c : Nat) : Int) (i : Int) ((n + 1 : Nat) : Int)) (fun k => ?_) (ev_rin b i r d (n + 1) (stepN c) (by omega) (stepN_lt c h) (by rw [hst]; exact k0))
    simp only [thwartref02_More.l1]
    rw [if_pos (by omega), rstep_N c h, Option.bind_some, wrap64_in (n := (n : Int) + 1) (by omega) (by omega)]
    exact Eq.refl _
theorem ev_rmore (b : ByteArray) (hb : b.size ≤ 4611686018427387904) : ∀ (d i c : Nat), i + d = (L b).length → c < 4294967296 →
    Ev (fun k => thwartref02_More.l0 k b (c : Int) (i : Int)) ((ones ^^^ moreN ((L b).drop i) c : Nat) : Int)
  | 0, i, c, e, h => by
    have hl := L_length b
    refine Ev.step (f := fun k => some ((ones ^^^ c : Nat) : Int)) (fun k => ?_) ?_
    · simp only [thwartref02_More.l0]
      rw [if_neg (by omega), u32_max, xor_u32 _ _ ones_lt h]
    · rw [List.drop_of_length_le (by omega), moreN_nil]
      exact Ev.now _
  | d + 1, i, c, e, h => by
    have hl := L_length b
    have hi : i < (L b).length := by omega
    have hx := (L b)[i].toNat_lt
    have hlt : c ^^^ (L b)[i].toNat < 4294967296 := Nat.xor_lt_two_pow (n := 32) (by simpa using h) (by omega)
    rw [drop_at _ _ hi, moreN_cons]
    refine Ev.step (f := fun k => thwartref02_More.l1 k b ((c ^^^ (L b)[i].toNat : Nat) : Int) (i : Int) ((0 : Nat) : Int)) (fun k => ?_) (ev_rin b i _ 8 0 _ rfl hlt ?_)
    · simp only [thwartref02_More.l0]
      rw [if_pos (by omega), if_pos (by omega), bt_L b i hi, show (((L b)[i].toNat : Int) % 4294967296) = ((L b)[i].toNat : Int) by omega, xor_u32 _ _ h (by omega)]
      exact Eq.refl _
    · rw [wrap64_in (by omega) (by omega)]
      have := ev_rmore b hb d (i + 1) (byteN c (L b)[i].toNat) (by omega) (byteN_lt c _ h hx)
      exact this
theorem ev_rMore (s : Nat) (b : ByteArray) (hs : s < 4294967296) (hb : b.size ≤ 4611686018427387904) : Ev (fun k => thwartref02_More.f k (s : Int) b) ((moreS s (L b) : Nat) : Int) := by
  have h1 : ones ^^^ s < 4294967296 := Nat.xor_lt_two_pow (n := 32) ones_lt (by simpa using hs)
  have := ev_rmore b hb (L b).length 0 _ (by omega) h1
  rw [List.drop_zero] at this
  unfold thwartref02_More.f moreS
  rw [u32_max, xor_u32 _ _ ones_lt hs]
  exact this
theorem ev_rSum2 (b : ByteArray) (hb : b.size ≤ 4611686018427387904) : Ev (fun k => thwartref02_Sum.f k b) ((sumS2 (L b) : Nat) : Int) := by
  unfold thwartref02_Sum.f
  exact Ev.bind (ev_rMore 0 b (by omega) hb) (Ev.now _)
theorem ev_rSeal (b : ByteArray) (hb : b.size ≤ 4611686018427387904) : Ev (fun k => thwartref02_Seal.f k b) (B (sealS (L b))) := by
  unfold thwartref02_Seal.f
  refine Ev.bind (ev_rSum2 b hb) ?_
  refine ev_bind_now rfl ?_
  have e : strOfNums [(((sumS2 (L b) : Nat) : Int)) % 256, (((sumS2 (L b) : Nat) : Int) / 256) % 256, (((sumS2 (L b) : Nat) : Int) / 65536) % 256, (((sumS2 (L b) : Nat) : Int) / 16777216) % 256] = B (le4 (sumS2 (L b))) := L_inj (by rw [L_B]; exact L_seal4 _)
  rw [e]
  simp only [B_size, le4_length]
  refine ev_if_pos (by omega) ?_
  exact ev_some fun k => congrArg some (L_inj (by rw [L_append, L_B, L_B]; rfl))
theorem ev_rOpen (b : ByteArray) (hb : b.size ≤ 4611686018427387904) : Ev (fun k => thwartref02_Open.f k b) (B (openS (L b)).1, (openS (L b)).2) := by
  have hl := L_length b
  unfold thwartref02_Open.f openS
  by_cases h : (L b).length < 4
  · rw [if_pos h]; exact ev_if_pos (by omega) (Ev.now _)
  rw [if_neg h]
  refine ev_if_neg (by omega) ?_
  refine ev_if_pos (by omega) ?_
  refine Ev.bind (ev_rSeal _ (by rw [extract_end, B_size, List.length_drop]; omega)) ?_
  simp only [toList_L, L_B, extract_end]
  have e : (sealS ((L b).drop 4) = L b) ↔ ((sealS ((L b).drop 4)).take 4 = (L b).take 4) := by
    constructor
    · intro h2; rw [h2]
    · intro h2
      conv => rhs; rw [← List.take_append_drop 4 (L b), ← h2, sealS_take]
      rfl
  by_cases h2 : (sealS ((L b).drop 4)).take 4 = (L b).take 4
  · rw [if_pos h2]; exact ev_if_pos (e.2 h2) (Ev.now _)
  · rw [if_neg h2]; exact ev_if_neg (fun h3 => h2 (e.1 h3)) (Ev.now _)
end Go.Proofs.YtgampcbjmdgciaaDoor.Thw
