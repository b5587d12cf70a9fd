/- Layer 1, the references: they come to the same plain words. -/
import Derived.Test.YtgampcbjmdgciaaDoorPrint5
import Derived.Test.YtgampcbjmdgciaaDoorPrint8
import Derived.Test.YtgampcbjmdgciaaDoorEv01I
namespace Go.Proofs.YtgampcbjmdgciaaDoor.Thw
open Go Go.RowKit Go.Proofs.YtgampcbjmdgciaaDoor.Print Go.Proofs.YtgampcbjmdgciaaDoorW.PrintWords Go.Proofs.YtgampcbjmdgciaaDoorW.PrintLast Go.Proofs.YtgampcbjmdgciaaDoorW.PrintMore
set_option linter.unusedVariables false
set_option linter.unusedSimpArgs false

theorem ev_rPut : ∀ (j n : Nat), n < 128 ^ (j + 1) → n < 18446744073709551616 → Ev (fun k => thwartref01_Put.f k (n : Int)) (B (putB j n))
  | j, n, hn, hm => by
    by_cases h : n < 128
    · refine Ev.step (f := fun k => some (strOfNums [((n : Int)) % 256])) (fun k => ?_) ?_
      · simp only [thwartref01_Put.f]
        rw [if_pos (by omega)]
      · refine ev_some fun k => ?_
        congr 1
        apply L_inj
        rw [L_B, L_strOfNums]
        have e : ((n : Int) % 256).toNat = n := by omega
        cases j <;> simp [putB, h, e]
    · cases j with
      | zero => exact absurd hn (by omega)
      | succ j =>
        have ed : IntKind.u64.wrap (Int.tdiv (n : Int) 128) = ((n / 128 : Nat) : Int) := by rw [Int.tdiv_eq_ediv_of_nonneg (by omega), u64_in (by omega) (by omega)]; omega
        have em : (IntKind.u64.wrap (128 + Int.tmod (n : Int) 128)) % 256 = ((n % 128 + 128 : Nat) : Int) := by rw [Int.tmod_eq_emod_of_nonneg (by omega), u64_in (by omega) (by omega)]; omega
        refine Ev.step (f := fun k => ((some (([((n % 128 + 128 : Nat) : Int)] : List Int) : List Int)).bind fun y133 => ((thwartref01_Put.f k ((n / 128 : Nat) : Int)).bind fun t136 => (if (strOfNums y133).size + t136.size ≤ 9223372036854775807 then (some ((strOfNums y133) ++ t136)) else (none))))) (fun k => ?_) ?_
        · simp only [thwartref01_Put.f]
          rw [if_neg (by omega), em, ed]
        · refine ev_bind_now rfl ?_
          refine Ev.bind (ev_rPut j (n / 128) ?_ (by omega)) ?_
          · rw [Nat.pow_succ] at hn
            exact (Nat.div_lt_iff_lt_mul (by omega)).2 hn
          · have hl := putB_length j (n / 128)
            have hj : j ≤ 9223372036854775000 ∨ 9223372036854775000 < j := by omega
            have hs : (strOfNums [((n % 128 + 128 : Nat) : Int)]) = B [UInt8.ofNat (n % 128 + 128)] := L_inj (by rw [L_strOfNums, L_B, List.map_singleton, Int.toNat_natCast])
            rw [hs]
            simp only [B_size, List.length_singleton]
            have hlen : (putB j (n / 128)).length ≤ n / 128 + 1 := putB_len_le j (n / 128)
            refine ev_if_pos (by omega) ?_
            refine ev_some fun k => ?_
            rw [← B_append, putB, if_neg h]
            rfl
theorem ev_rPutS (n : Nat) (h : n < 18446744073709551616) : Ev (fun k => thwartref01_Put.f k (n : Int)) (B (putS n)) :=
  ev_rPut 9 n (Nat.lt_of_lt_of_le h (by decide)) h
theorem rgather (acc i c : Nat) (hc : c < 256) :
    IntKind.u64.wrap ((acc : Int) + IntKind.u64.wrap (((128 ^ i % 18446744073709551616 : Nat) : Int) * IntKind.u64.wrap (Int.tmod (c : Int) 128))) = (((acc + c % 128 * 128 ^ i) % 18446744073709551616 : Nat) : Int) := by
  rw [Int.tmod_eq_emod_of_nonneg (by omega), show ((c : Int) % 128) = ((c % 128 : Nat) : Int) by omega, u64_in (n := ((c % 128 : Nat) : Int)) (by omega) (by omega), mul_u64, IntKind.wrap_u64]
  have e : 128 ^ i % 18446744073709551616 * (c % 128) % 18446744073709551616 = c % 128 * 128 ^ i % 18446744073709551616 := by rw [Nat.mod_mul_mod, Nat.mul_comm]
  rw [e]
  generalize c % 128 * 128 ^ i = X
  omega
theorem ev_rtake (b : ByteArray) (hb : b.size ≤ 4611686018427387904) : ∀ (f i acc : Nat), i + f = 10 → i ≤ (L b).length →
    Ev (fun k => thwartref01_Take.l0 k b (acc : Int) ((128 ^ i % 18446744073709551616 : Nat) : Int) (i : Int)) (TK (takeR (L b) f i acc))
  | 0, i, acc, e, h => by
    refine Ev.step (f := fun k => some (TK (0, [], 2))) (fun k => ?_) (Ev.now _)
    simp only [thwartref01_Take.l0]
    rw [if_neg (by omega)]
    rfl
  | f + 1, i, acc, e, h => by
    have hl := L_length b
    rw [takeR]
    by_cases h1 : i = (L b).length
    · rw [if_pos h1]
      refine Ev.step (f := fun k => some (TK (0, [], 3))) (fun k => ?_) (Ev.now _)
      simp only [thwartref01_Take.l0]
      rw [if_pos (by omega), if_pos (by omega)]
      rfl
    rw [if_neg h1]
    have hi : i < (L b).length := by omega
    have hg : (L b).getD i 0 = (L b)[i] := by simp [List.getD_eq_getElem?_getD, List.getElem?_eq_getElem hi]
    have hc := (L b)[i].toNat_lt
    have hga := rgather acc i (L b)[i].toNat hc
    rw [hg]
    generalize hn : (acc + (L b)[i].toNat % 128 * 128 ^ i) % 18446744073709551616 = n at hga ⊢
    have HT := Aside0.mk (show n < 18446744073709551616 by rw [← hn]; exact Nat.mod_lt _ (by omega))
    clear hn
    have HM := Aside0.mk (show IntKind.u64.wrap (((128 ^ i % 18446744073709551616 : Nat) : Int) * 128) = ((128 ^ (i + 1) % 18446744073709551616 : Nat) : Int) by
      rw [show (128 : Int) = ((128 : Nat) : Int) from rfl, mul_u64, Nat.mod_mul_mod, Nat.pow_succ])
    generalize 128 ^ i % 18446744073709551616 = m at hga HM ⊢
    have hw : wrap64 ((i : Int) + 1) = ((i + 1 : Nat) : Int) := by rw [wrap64_in (by omega) (by omega)]; omega
    by_cases h2 : 128 ≤ (L b)[i].toNat
    · rw [if_pos h2]
      refine Ev.step (f := fun k => thwartref01_Take.l0 k b (n : Int) ((128 ^ (i + 1) % 18446744073709551616 : Nat) : Int) ((i + 1 : Nat) : Int)) (fun k => ?_) (ev_rtake b hb f (i + 1) n (by omega) (by omega))
      simp only [thwartref01_Take.l0]
      rw [if_pos (by omega), if_neg (by omega), if_pos (by omega), if_pos (by omega), bt_L b i hi, if_neg (by omega), hga, hw, HM.out]
    · rw [if_neg h2]
      refine Ev.step (f := fun k => (thwartref01_Put.f k (n : Int)).bind fun t => (if t.toList = (L b).take (i + 1) then some (TK (n, (L b).drop (i + 1), 0)) else some (TK (0, [], 2)))) (fun k => ?_) ?_
      · simp only [thwartref01_Take.l0]
        rw [if_pos (by omega), if_neg (by omega), if_pos (by omega), if_pos (by omega), bt_L b i hi, if_pos (by omega), hga, hw]
        simp only [if_pos (show (0 : Int) ≤ ((i + 1 : Nat) : Int) by omega), if_pos (show ((i + 1 : Nat) : Int) ≤ (b.size : Int) by omega), toList_L, Int.toNat_natCast, L_extract_front, extract_end]
        rfl
      · refine Ev.bind (ev_rPutS n HT.out) ?_
        simp only [toList_L, L_B]
        split
        · exact Ev.now _
        · exact Ev.now _
theorem ev_rTake (b : ByteArray) (hb : b.size ≤ 4611686018427387904) : Ev (fun k => thwartref01_Take.f k b) (TK (takeS (L b))) :=
  ev_rtake b hb 10 0 0 rfl (Nat.zero_le _)
end Go.Proofs.YtgampcbjmdgciaaDoor.Thw
