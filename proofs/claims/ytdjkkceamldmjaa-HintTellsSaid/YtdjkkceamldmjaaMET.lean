/- Several texts of mine in one (EvA, Ev01, Ev01r, Ev01s, Ev02, Ev02r, Ev03, Ev03r, Ev03m, Ev04D, Ev05D, Ev05O, Ev05T). -/
import Derived.Test.YtdjkkceamldmjaaMPD
import Derived.Test.YtdjkkceamldmjaaWWords
import Derived.Test.YtdjkkceamldmjaaWMore
import Derived.Test.YtdjkkceamldmjaaWNEv

import Derived.Test.YtdjkkceamldmjaaPrint6
import Derived.Test.YtdjkkceamldmjaaPrint4

import Derived.Test.YtdjkkceamldmjaaPrint11
import Derived.Test.YtdjkkceamldmjaaPrint12
import Derived.Test.YtdjkkceamldmjaaPrint5

import Derived.Test.YtdjkkceamldmjaaPrint10
import Derived.Test.YtdjkkceamldmjaaPrint7
import Derived.Test.YtdjkkceamldmjaaPrint8

import Derived.Laws.BitsAllLaws
import Derived.Test.YtdjkkceamldmjaaPrint13
import Derived.Test.YtdjkkceamldmjaaPrint9
import Derived.Test.YtdjkkceamldmjaaPrint14

import Derived.Test.YtdjkkceamldmjaaPrint15
/-! ## What the printed words come to in plain words: bytes of a string, rounds. -/
namespace Go.Proofs.Ytdjkkceamldmjaa.Thw
open Go Go.RowKit Go.Proofs.YtdjkkceamldmjaaW.PrintWords Go.Proofs.YtdjkkceamldmjaaW.PrintMore
set_option linter.unusedVariables false
set_option linter.unusedSimpArgs false

theorem bt_L (s : ByteArray) (i : Nat) (h : i < (L s).length) : bt s (i : Int) = (((L s)[i]).toNat : Int) := by
  have h' : i < s.size := by rw [← L_length]; exact h
  unfold bt
  simp only [Int.toNat_natCast]
  rw [dif_pos h']
  simp only [L, Array.getElem_toList]
  rfl
theorem drop_at {α : Type} (l : List α) (i : Nat) (h : i < l.length) : l.drop i = l[i] :: l.drop (i + 1) := List.drop_eq_getElem_cons h
theorem wrap64_in {n : Int} (h0 : -9223372036854775808 ≤ n) (h1 : n ≤ 9223372036854775807) : wrap64 n = n := by unfold wrap64; omega
theorem u64_in {n : Int} (h0 : 0 ≤ n) (h1 : n < 18446744073709551616) : IntKind.u64.wrap n = n := by rw [IntKind.wrap_u64]; omega
theorem L_strOfNums (l : List Int) : L (strOfNums l) = l.map fun n => UInt8.ofNat n.toNat := by simp [L, strOfNums]
theorem wf_u64 {n : Int} (h : (Lit.int .u64 n).wf = true) : 0 ≤ n ∧ n < 18446744073709551616 := by
  simp [Lit.wf, IntKind.min, IntKind.max, IntKind.bits, IntKind.signed] at h
  omega
theorem mul_u64 (a b : Nat) : IntKind.u64.wrap ((a : Int) * (b : Int)) = ((a * b % 18446744073709551616 : Nat) : Int) := by rw [IntKind.wrap_u64]; omega
theorem ev_if_pos {α : Type} {c : Prop} [Decidable c] {g f : Nat → Option α} {r : α} (hc : c) (h : Ev g r) : Ev (fun k => if c then g k else f k) r := Ev.congr (fun k => if_pos hc) h
theorem ev_if_neg {α : Type} {c : Prop} [Decidable c] {g f : Nat → Option α} {r : α} (hc : ¬ c) (h : Ev f r) : Ev (fun k => if c then g k else f k) r := Ev.congr (fun k => if_neg hc) h
theorem ev_some {α : Type} {g : Nat → Option α} {r : α} (h : ∀ k, g k = some r) : Ev g r := ⟨0, fun k _ => h k⟩
theorem ev_bind_now {α β : Type} {g : Option α} {f : Nat → α → Option β} {a : α} {r : β} (h : g = some a) (k : Ev (fun n => f n a) r) : Ev (fun n => g.bind (f n)) r := Ev.congr (fun n => by rw [h]; rfl) k
end Go.Proofs.Ytdjkkceamldmjaa.Thw
/-! ## Layer 1 (varint): what the printed functions come to, in the plain words of Plain01. -/
namespace Go.Proofs.Ytdjkkceamldmjaa.Thw
open Go Go.RowKit Go.Proofs.Ytdjkkceamldmjaa.Print Go.Proofs.YtdjkkceamldmjaaW.PrintWords Go.Proofs.YtdjkkceamldmjaaW.PrintLast Go.Proofs.YtdjkkceamldmjaaW.PrintMore
set_option linter.unusedVariables false
set_option linter.unusedSimpArgs false

theorem L_putF : ∀ (k n : Nat), L (strOfNums (putF k (n : Int))) = putB k n
  | 0, n => by rw [putF, putB, L_strOfNums]; simp
  | k + 1, n => by
    have e : ((n : Int) / 128) = ((n / 128 : Nat) : Int) := by omega
    rw [putF, putB]
    by_cases h : n < 128
    · rw [if_pos (by omega), if_pos h, L_strOfNums]; simp
    · rw [if_neg (by omega), if_neg h, L_strOfNums, List.map_cons, ← L_strOfNums, e, L_putF k (n / 128)]
      congr 2
theorem strOf_putF (n : Nat) : strOfNums (putF 9 (n : Int)) = B (putS n) := L_inj (by rw [L_putF, L_B]; rfl)
theorem varint_Put_N (n : Nat) (h : n < 18446744073709551616) : varint_Put.f (n : Int) = some (B (putS n)) := by
  unfold varint_Put.f
  rw [if_pos (by omega), strOf_putF]
theorem varint_Text_B (s : ByteArray) (h : s.size ≤ 4611686018427387904) : varint_Text.f s = some (B (textS (L s))) := by
  unfold varint_Text.f
  rw [if_pos h, strOf_putF]
  exact congrArg some (L_inj (by rw [L_append, L_B, L_B, textS, L_length]))
theorem add_lt_mod (X acc : Nat) (h : X % 18446744073709551616 + acc < 18446744073709551616) : X % 18446744073709551616 + acc = (acc + X) % 18446744073709551616 := by omega
/-- One more byte, gathered. -/
theorem gather (acc i c : Nat) (hi : i ≤ 9) (ha : acc < 128 ^ i) (hc : c < 256) :
    Go.bits .or .u64 (acc : Int) (shl .u64 (IntKind.u64.wrap (Go.bits .andNot .u8 (c : Int) 128)) (wrap64 (7 * (i : Int)))) = (((acc + c % 128 * 128 ^ i) % 18446744073709551616 : Nat) : Int) := by
  have hand : Go.bits .andNot .u8 (c : Int) 128 = ((c % 128 : Nat) : Int) := by
    have e : ∀ a : Nat, a < 256 → a &&& (255 - 128) = a % 128 := by decide +kernel
    rw [show (128 : Int) = ((128 : Nat) : Int) from rfl, u8_andNot_nat c 128 hc (by omega), e c hc]
  have hp : (128 : Nat) ^ i = 2 ^ (7 * i) := by rw [Nat.pow_mul]
  have hsh : shl .u64 ((c % 128 : Nat) : Int) (wrap64 (7 * (i : Int))) = ((c % 128 * 128 ^ i % 18446744073709551616 : Nat) : Int) := by
    unfold shl
    rw [wrap64_in (by omega) (by omega), show min (7 * (i : Int)).toNat IntKind.u64.bits = 7 * i by simp [IntKind.bits]; omega]
    have e1 : ((2 : Int) ^ (7 * i)) = ((128 ^ i : Nat) : Int) := by rw [hp]; simp
    rw [e1, mul_u64]
  rw [hand, u64_in (n := ((c % 128 : Nat) : Int)) (by omega) (by omega), hsh]
  have hpos : 0 < 128 ^ i := Nat.pow_pos (by omega)
  have hle : 128 ^ i ≤ 128 ^ 9 := Nat.pow_le_pow_right (by omega) hi
  rw [pow_128_9] at hle
  have hdvd : 2 ^ (7 * i) * (18446744073709551616 / 2 ^ (7 * i)) = 18446744073709551616 := by
    have : (18446744073709551616 : Nat) = 2 ^ (7 * i) * 2 ^ (64 - 7 * i) := by rw [← Nat.pow_add, show 7 * i + (64 - 7 * i) = 64 by omega]
    exact Nat.mul_div_cancel' ⟨_, this⟩
  have hmul : c % 128 * 128 ^ i % 18446744073709551616 = 2 ^ (7 * i) * (c % 128 % (18446744073709551616 / 2 ^ (7 * i))) := by
    rw [Nat.mul_comm, hp]
    conv => lhs; rw [← hdvd]
    rw [Nat.mul_mod_mul_left]
  have hlt : c % 128 * 128 ^ i % 18446744073709551616 < 18446744073709551616 := Nat.mod_lt _ (by omega)
  rw [u64_or_nat _ _ (by omega) hlt, Nat.or_comm, hmul, ← Nat.two_pow_add_eq_or_of_lt (by rw [← hp]; exact ha), ← hmul]
  have hsum : c % 128 * 128 ^ i % 18446744073709551616 + acc < 18446744073709551616 := by
    rw [hmul]
    have h1 : c % 128 % (18446744073709551616 / 2 ^ (7 * i)) + 1 ≤ 18446744073709551616 / 2 ^ (7 * i) := Nat.mod_lt _ (by
      rcases Nat.eq_zero_or_pos (18446744073709551616 / 2 ^ (7 * i)) with h | h
      · rw [h] at hdvd; omega
      · exact h)
    have h2 := Nat.mul_le_mul_left (2 ^ (7 * i)) h1
    rw [hdvd, Nat.mul_add, Nat.mul_one] at h2
    rw [hp] at ha
    omega
  exact congrArg _ (add_lt_mod _ acc hsum)
def TK (r : Nat × Bs × Int) : Int × ByteArray × Int := ((r.1 : Int), B r.2.1, r.2.2)
theorem ev_take (b : ByteArray) (hb : b.size ≤ 4611686018427387904) : ∀ (f i acc : Nat), i + f = 10 → i ≤ (L b).length → acc < 128 ^ i →
    Ev (fun k => varint_Take.l0 k b (acc : Int) (i : Int)) (TK (takeR (L b) f i acc))
  | 0, i, acc, e, h, ha => by
    refine Ev.step (f := fun k => some (TK (0, [], 2))) (fun k => ?_) (Ev.now _)
    simp only [varint_Take.l0]
    rw [if_neg (by omega)]
    rfl
  | f + 1, i, acc, e, h, ha => by
    have hl := L_length b
    rw [takeR]
    by_cases h1 : i = (L b).length
    · rw [if_pos h1]
      refine Ev.step (f := fun k => some (TK (0, [], 3))) (fun k => ?_) (Ev.now _)
      simp only [varint_Take.l0]
      rw [if_pos (by omega), if_pos (by omega)]
      rfl
    rw [if_neg h1]
    have hi : i < (L b).length := by omega
    have hg : (L b).getD i 0 = (L b)[i] := by simp [List.getD_eq_getElem?_getD, List.getElem?_eq_getElem hi]
    have hc := (L b)[i].toNat_lt
    have hga := gather acc i (L b)[i].toNat (by omega) ha hc
    rw [hg]
    generalize hn : (acc + (L b)[i].toNat % 128 * 128 ^ i) % 18446744073709551616 = n at hga ⊢
    have hnlt : n < 18446744073709551616 := by rw [← hn]; exact Nat.mod_lt _ (by omega)
    have HN := Aside0.mk hn
    clear hn
    have HT := Aside0.mk hnlt
    clear hnlt
    by_cases h2 : 128 ≤ (L b)[i].toNat
    · rw [if_pos h2]
      refine Ev.step (f := fun k => varint_Take.l0 k b (n : Int) ((i + 1 : Nat) : Int)) (fun k => ?_) (ev_take b hb f (i + 1) n (by omega) (by omega) ?_)
      · simp only [varint_Take.l0]
        rw [if_pos (by omega), if_neg (by omega), if_pos (by omega), if_pos (by omega), if_pos (by rw [wrap64_in (by omega) (by omega)]; omega), bt_L b i hi, if_pos (by omega), hga, wrap64_in (n := (i : Int) + 1) (by omega) (by omega)]
        exact Eq.refl _
      · rw [← HN.out]
        refine Nat.lt_of_le_of_lt (Nat.mod_le _ _) ?_
        have : (L b)[i].toNat % 128 * 128 ^ i ≤ 127 * 128 ^ i := Nat.mul_le_mul_right _ (by omega)
        rw [Nat.pow_succ]
        omega
    · rw [if_neg h2]
      have hw : wrap64 ((i : Int) + 1) = ((i + 1 : Nat) : Int) := by rw [wrap64_in (by omega) (by omega)]; omega
      refine Ev.step (f := fun k => if putS n = (L b).take (i + 1) then some (TK (n, (L b).drop (i + 1), 0)) else some (TK (0, [], 2))) (fun k => ?_) ?_
      · simp only [varint_Take.l0]
        rw [if_pos (by omega), if_neg (by omega), if_pos (by omega), if_pos (by omega), if_pos (by rw [wrap64_in (by omega) (by omega)]; omega), bt_L b i hi, if_neg (by omega), hga, varint_Put_N n HT.out, Option.bind_some, hw, if_pos (by omega), if_pos (by omega)]
        simp only [toList_L, L_B, Int.toNat_natCast, L_extract_front, extract_end]
        rfl
      · split
        · exact Ev.now _
        · exact Ev.now _
theorem ev_Take (b : ByteArray) (hb : b.size ≤ 4611686018427387904) : Ev (fun k => varint_Take.f k b) (TK (takeS (L b))) := by
  have := ev_take b hb 10 0 0 rfl (Nat.zero_le _) (by decide)
  exact this
def OT (r : Bs × Bs × Int) : ByteArray × ByteArray × Int := (B r.1, B r.2.1, r.2.2)
theorem takeS_len (b : Bs) : (takeS b).2.1.length ≤ b.length := by
  rcases takeS_told b with h | h | h
  · omega
  · rw [h]; simp
  · rw [h]; simp
theorem ev_OfText (b : ByteArray) (hb : b.size ≤ 4611686018427387904) : Ev (fun k => varint_OfText.f k b) (OT (ofTextS (L b))) := by
  have hl := L_length b
  have hr := takeS_len (L b)
  unfold varint_OfText.f ofTextS
  refine Ev.bind (ev_Take b hb) ?_
  generalize takeS (L b) = r at hr ⊢
  obtain ⟨n, rest, e⟩ := r
  simp only [TK] at hr ⊢
  by_cases h0 : e = 0
  · subst h0
    refine ev_if_pos rfl ?_
    rw [if_pos rfl]
    simp only [B_size]
    rw [u64_in (by omega) (by omega)]
    by_cases h1 : n > rest.length
    · rw [if_pos h1]
      exact ev_if_pos (by omega) (Ev.now _)
    · rw [if_neg h1]
      refine ev_if_neg (by omega) ?_
      refine ev_if_pos (by omega) ?_
      refine ev_if_pos (by omega) ?_
      refine ev_some fun k => ?_
      rw [extract_front, Int.toNat_natCast, L_B, ← B_size rest, extract_end, L_B]
      rfl
  · rw [if_neg h0]
    exact ev_if_neg h0 (Ev.now _)
end Go.Proofs.Ytdjkkceamldmjaa.Thw
/-! ## Layer 1, the references: they come to the same plain words. -/
namespace Go.Proofs.Ytdjkkceamldmjaa.Thw
open Go Go.RowKit Go.Proofs.Ytdjkkceamldmjaa.Print Go.Proofs.YtdjkkceamldmjaaW.PrintWords Go.Proofs.YtdjkkceamldmjaaW.PrintLast Go.Proofs.YtdjkkceamldmjaaW.PrintMore
set_option linter.unusedVariables false
set_option linter.unusedSimpArgs false

theorem ev_rPut : ∀ (j n : Nat), n < 128 ^ (j + 1) → n < 18446744073709551616 → Ev (fun k => thwartref01_Put.f k (n : Int)) (B (putB j n))
  | j, n, hn, hm => by
    by_cases h : n < 128
    · refine Ev.step (f := fun k => some (strOfNums [((n : Int)) % 256])) (fun k => ?_) ?_
      · simp only [thwartref01_Put.f]
        rw [if_pos (by omega)]
      · refine ev_some fun k => ?_
        congr 1
        apply L_inj
        rw [L_B, L_strOfNums]
        have e : ((n : Int) % 256).toNat = n := by omega
        cases j <;> simp [putB, h, e]
    · cases j with
      | zero => exact absurd hn (by omega)
      | succ j =>
        have ed : IntKind.u64.wrap (Int.tdiv (n : Int) 128) = ((n / 128 : Nat) : Int) := by rw [Int.tdiv_eq_ediv_of_nonneg (by omega), u64_in (by omega) (by omega)]; omega
        have em : (IntKind.u64.wrap (128 + Int.tmod (n : Int) 128)) % 256 = ((n % 128 + 128 : Nat) : Int) := by rw [Int.tmod_eq_emod_of_nonneg (by omega), u64_in (by omega) (by omega)]; omega
        refine Ev.step (f := fun k => ((some (([((n % 128 + 128 : Nat) : Int)] : List Int) : List Int)).bind fun y133 => ((thwartref01_Put.f k ((n / 128 : Nat) : Int)).bind fun t136 => (if (strOfNums y133).size + t136.size ≤ 9223372036854775807 then (some ((strOfNums y133) ++ t136)) else (none))))) (fun k => ?_) ?_
        · simp only [thwartref01_Put.f]
          rw [if_neg (by omega), em, ed]
        · refine ev_bind_now rfl ?_
          refine Ev.bind (ev_rPut j (n / 128) ?_ (by omega)) ?_
          · rw [Nat.pow_succ] at hn
            exact (Nat.div_lt_iff_lt_mul (by omega)).2 hn
          · have hl := putB_length j (n / 128)
            have hj : j ≤ 9223372036854775000 ∨ 9223372036854775000 < j := by omega
            have hs : (strOfNums [((n % 128 + 128 : Nat) : Int)]) = B [UInt8.ofNat (n % 128 + 128)] := L_inj (by rw [L_strOfNums, L_B, List.map_singleton, Int.toNat_natCast])
            rw [hs]
            simp only [B_size, List.length_singleton]
            have hlen : (putB j (n / 128)).length ≤ n / 128 + 1 := putB_len_le j (n / 128)
            refine ev_if_pos (by omega) ?_
            refine ev_some fun k => ?_
            rw [← B_append, putB, if_neg h]
            rfl
theorem ev_rPutS (n : Nat) (h : n < 18446744073709551616) : Ev (fun k => thwartref01_Put.f k (n : Int)) (B (putS n)) :=
  ev_rPut 9 n (Nat.lt_of_lt_of_le h (by decide)) h
theorem ev_rText (s : ByteArray) (h : s.size ≤ 4611686018427387904) : Ev (fun k => thwartref01_Text.f k s) (B (textS (L s))) := by
  have hl := L_length s
  have h1 := putS_length s.size
  unfold thwartref01_Text.f
  refine ev_if_pos h ?_
  refine Ev.bind (ev_rPutS s.size (by omega)) ?_
  simp only [B_size]
  refine ev_if_pos (by omega) ?_
  refine ev_some fun k => ?_
  exact congrArg some (L_inj (by rw [L_append, L_B, L_B, textS, L_length]))
theorem rgather (acc i c : Nat) (hc : c < 256) :
    IntKind.u64.wrap ((acc : Int) + IntKind.u64.wrap (((128 ^ i % 18446744073709551616 : Nat) : Int) * IntKind.u64.wrap (Int.tmod (c : Int) 128))) = (((acc + c % 128 * 128 ^ i) % 18446744073709551616 : Nat) : Int) := by
  rw [Int.tmod_eq_emod_of_nonneg (by omega), show ((c : Int) % 128) = ((c % 128 : Nat) : Int) by omega, u64_in (n := ((c % 128 : Nat) : Int)) (by omega) (by omega), mul_u64, IntKind.wrap_u64]
  have e : 128 ^ i % 18446744073709551616 * (c % 128) % 18446744073709551616 = c % 128 * 128 ^ i % 18446744073709551616 := by rw [Nat.mod_mul_mod, Nat.mul_comm]
  rw [e]
  generalize c % 128 * 128 ^ i = X
  omega
theorem ev_rtake (b : ByteArray) (hb : b.size ≤ 4611686018427387904) : ∀ (f i acc : Nat), i + f = 10 → i ≤ (L b).length →
    Ev (fun k => thwartref01_Take.l0 k b (acc : Int) ((128 ^ i % 18446744073709551616 : Nat) : Int) (i : Int)) (TK (takeR (L b) f i acc))
  | 0, i, acc, e, h => by
    refine Ev.step (f := fun k => some (TK (0, [], 2))) (fun k => ?_) (Ev.now _)
    simp only [thwartref01_Take.l0]
    rw [if_neg (by omega)]
    rfl
  | f + 1, i, acc, e, h => by
    have hl := L_length b
    rw [takeR]
    by_cases h1 : i = (L b).length
    · rw [if_pos h1]
      refine Ev.step (f := fun k => some (TK (0, [], 3))) (fun k => ?_) (Ev.now _)
      simp only [thwartref01_Take.l0]
      rw [if_pos (by omega), if_pos (by omega)]
      rfl
    rw [if_neg h1]
    have hi : i < (L b).length := by omega
    have hg : (L b).getD i 0 = (L b)[i] := by simp [List.getD_eq_getElem?_getD, List.getElem?_eq_getElem hi]
    have hc := (L b)[i].toNat_lt
    have hga := rgather acc i (L b)[i].toNat hc
    rw [hg]
    generalize hn : (acc + (L b)[i].toNat % 128 * 128 ^ i) % 18446744073709551616 = n at hga ⊢
    have HT := Aside0.mk (show n < 18446744073709551616 by rw [← hn]; exact Nat.mod_lt _ (by omega))
    clear hn
    have HM := Aside0.mk (show IntKind.u64.wrap (((128 ^ i % 18446744073709551616 : Nat) : Int) * 128) = ((128 ^ (i + 1) % 18446744073709551616 : Nat) : Int) by
      rw [show (128 : Int) = ((128 : Nat) : Int) from rfl, mul_u64, Nat.mod_mul_mod, Nat.pow_succ])
    generalize 128 ^ i % 18446744073709551616 = m at hga HM ⊢
    have hw : wrap64 ((i : Int) + 1) = ((i + 1 : Nat) : Int) := by rw [wrap64_in (by omega) (by omega)]; omega
    by_cases h2 : 128 ≤ (L b)[i].toNat
    · rw [if_pos h2]
      refine Ev.step (f := fun k => thwartref01_Take.l0 k b (n : Int) ((128 ^ (i + 1) % 18446744073709551616 : Nat) : Int) ((i + 1 : Nat) : Int)) (fun k => ?_) (ev_rtake b hb f (i + 1) n (by omega) (by omega))
      simp only [thwartref01_Take.l0]
      rw [if_pos (by omega), if_neg (by omega), if_pos (by omega), if_pos (by omega), bt_L b i hi, if_neg (by omega), hga, hw, HM.out]
    · rw [if_neg h2]
      refine Ev.step (f := fun k => (thwartref01_Put.f k (n : Int)).bind fun t => (if t.toList = (L b).take (i + 1) then some (TK (n, (L b).drop (i + 1), 0)) else some (TK (0, [], 2)))) (fun k => ?_) ?_
      · simp only [thwartref01_Take.l0]
        rw [if_pos (by omega), if_neg (by omega), if_pos (by omega), if_pos (by omega), bt_L b i hi, if_pos (by omega), hga, hw]
        simp only [if_pos (show (0 : Int) ≤ ((i + 1 : Nat) : Int) by omega), if_pos (show ((i + 1 : Nat) : Int) ≤ (b.size : Int) by omega), toList_L, Int.toNat_natCast, L_extract_front, extract_end]
        rfl
      · refine Ev.bind (ev_rPutS n HT.out) ?_
        simp only [toList_L, L_B]
        split
        · exact Ev.now _
        · exact Ev.now _
theorem ev_rTake (b : ByteArray) (hb : b.size ≤ 4611686018427387904) : Ev (fun k => thwartref01_Take.f k b) (TK (takeS (L b))) :=
  ev_rtake b hb 10 0 0 rfl (Nat.zero_le _)
theorem ev_rOfText (b : ByteArray) (hb : b.size ≤ 4611686018427387904) : Ev (fun k => thwartref01_OfText.f k b) (OT (ofTextS (L b))) := by
  have hl := L_length b
  have hr := takeS_len (L b)
  unfold thwartref01_OfText.f ofTextS
  refine Ev.bind (ev_rTake b hb) ?_
  generalize takeS (L b) = r at hr ⊢
  obtain ⟨n, rest, e⟩ := r
  simp only [TK] at hr ⊢
  by_cases h0 : e = 0
  · subst h0
    refine ev_if_pos rfl ?_
    rw [if_pos rfl]
    simp only [B_size]
    rw [u64_in (by omega) (by omega)]
    by_cases h1 : n > rest.length
    · rw [if_pos h1]
      exact ev_if_pos (by omega) (Ev.now _)
    · rw [if_neg h1]
      refine ev_if_neg (by omega) ?_
      rw [wrap64_in (by omega) (by omega)]
      refine ev_if_pos (by omega) ?_
      refine ev_if_pos (by omega) ?_
      refine ev_some fun k => ?_
      rw [extract_front, Int.toNat_natCast, L_B, ← B_size rest, extract_end, L_B]
      rfl
  · rw [if_neg h0]
    exact ev_if_neg h0 (Ev.now _)
end Go.Proofs.Ytdjkkceamldmjaa.Thw
/-! ## Layer 1, the references, said of bytes; halves. -/
namespace Go.Proofs.Ytdjkkceamldmjaa.Thw
open Go Go.RowKit Go.Proofs.Ytdjkkceamldmjaa.Print Go.Proofs.YtdjkkceamldmjaaW.PrintWords Go.Proofs.YtdjkkceamldmjaaW.PrintLast Go.Proofs.YtdjkkceamldmjaaW.PrintMore
set_option linter.unusedVariables false
set_option linter.unusedSimpArgs false

theorem ev_rText_B (l : Bs) (h : l.length ≤ 4611686018427387904) : Ev (fun k => thwartref01_Text.f k (B l)) (B (textS l)) := by
  have := ev_rText (B l) (by rw [B_size]; exact h)
  rwa [L_B] at this
theorem ev_rOfText_B (b : Bs) (hb : b.length ≤ 4611686018427387904) : Ev (fun k => thwartref01_OfText.f k (B b)) (OT (ofTextS b)) := by
  have := ev_rOfText (B b) (by rw [B_size]; exact hb)
  rwa [L_B] at this
theorem rhalf (n : Nat) (h : n < 18446744073709551616) : IntKind.u64.wrap (Int.tdiv (n : Int) 2) = ((n / 2 : Nat) : Int) := by
  rw [Int.tdiv_eq_ediv_of_nonneg (by omega), IntKind.wrap_u64]; omega
theorem rodd (n : Nat) : Int.tmod (n : Int) 2 = ((n % 2 : Nat) : Int) := by
  rw [Int.tmod_eq_emod_of_nonneg (by omega)]; omega
end Go.Proofs.Ytdjkkceamldmjaa.Thw
/-! ## Layer 2 (crc): what the printed functions come to, in the plain words of Plain02. -/
namespace Go.Proofs.Ytdjkkceamldmjaa.Thw
open Go Go.RowKit Go.Proofs.Ytdjkkceamldmjaa.Print Go.Proofs.YtdjkkceamldmjaaW.PrintWords Go.Proofs.YtdjkkceamldmjaaW.PrintLast Go.Proofs.YtdjkkceamldmjaaW.PrintMore
set_option linter.unusedVariables false
set_option linter.unusedSimpArgs false

theorem xor_u32 (a b : Nat) (ha : a < 4294967296) (hb : b < 4294967296) : Go.bits .xor .u32 (a : Int) (b : Int) = ((a ^^^ b : Nat) : Int) := u32_xor_nat a b ha hb
theorem crcStep_N (c : Nat) (h : c < 4294967296) : crcStep (c : Int) = ((stepN c : Nat) : Int) := by
  have h1 : Go.bits .and .u32 (c : Int) 1 = ((c % 2 : Nat) : Int) := by
    rw [show (1 : Int) = ((1 : Nat) : Int) from rfl, u32_and_nat c 1 h (by omega), Nat.and_one_is_mod]
  have h2 : ((c : Int) / 2) = ((c / 2 : Nat) : Int) := by omega
  unfold crcStep stepN
  rw [h1, h2]
  rcases Nat.mod_two_eq_zero_or_one c with h3 | h3
  · rw [h3, if_neg (by omega), show ((-(((0 : Nat)) : Int)) % 4294967296) = ((0 : Nat) : Int) from rfl, show (2197175160 : Int) = ((2197175160 : Nat) : Int) from rfl, u32_and_nat _ 0 (by omega) (by omega), Nat.and_zero, xor_u32 _ _ (by omega) (by omega)]
  · rw [h3, if_pos rfl, show ((-(((1 : Nat)) : Int)) % 4294967296) = ((4294967295 : Nat) : Int) from by decide, show (2197175160 : Int) = ((2197175160 : Nat) : Int) from rfl, u32_and_nat _ _ (by omega) (by omega), show (2197175160 &&& 4294967295 : Nat) = 2197175160 from by decide +kernel, xor_u32 _ _ (by omega) (by omega)]
    unfold polyN
    exact Eq.refl _
theorem iter_N (c : Nat) (h : c < 4294967296) : ∀ n, iterI crcStep n (c : Int) = ((stepsN n c : Nat) : Int)
  | 0 => rfl
  | n + 1 => by rw [iterI, iter_N c h n, crcStep_N _ (stepsN_lt c h n), stepsN]
theorem crcOf_N (i : Nat) (h : i < 256) : crcOf i = ((stepsN 8 i : Nat) : Int) := by unfold crcOf; exact iter_N i (by omega) 8
theorem crcNext_N (c x : Nat) (hc : c < 4294967296) (hx : x < 256) : crcNext (c : Int) (x : Int) = ((byteN c x : Nat) : Int) := by
  have h1 : ((c : Int) % 256) = ((c % 256 : Nat) : Int) := by omega
  have h2 : ((c : Int) / 256) = ((c / 256 : Nat) : Int) := by omega
  have h3 : (c % 256) ^^^ x < 256 := Nat.xor_lt_two_pow (n := 8) (by omega) (by omega)
  unfold crcNext
  rw [h1, h2, u8_xor_nat _ _ (by omega) hx, Int.toNat_natCast, crcOf_N _ h3, xor_u32 _ _ (stepsN_lt _ (by omega) 8) (by omega), byteN_table c x hx]
theorem moreL_N : ∀ (l : Bs) (c : Nat), c < 4294967296 → moreL l (c : Int) = ((moreN l c : Nat) : Int)
  | [], c, _ => rfl
  | b :: l, c, h => by
    have hb := b.toNat_lt
    rw [moreN_cons, ← moreL_N l _ (byteN_lt c _ h hb), ← crcNext_N c _ h hb]
    exact List.foldl_cons ..
theorem u32_max : IntKind.u32.max = ((ones : Nat) : Int) := by decide
theorem crc_More_S (s : Nat) (b : ByteArray) (hs : s < 4294967296) (hb : b.size ≤ 4611686018427387904) : crc_More.f (s : Int) b = some ((moreS s (L b) : Nat) : Int) := by
  have h1 : ones ^^^ s < 4294967296 := Nat.xor_lt_two_pow (n := 32) ones_lt (by simpa using hs)
  unfold crc_More.f
  rw [if_pos hb, u32_max, xor_u32 _ _ ones_lt hs, moreL_N _ _ h1, xor_u32 _ _ ones_lt (moreN_lt _ _ h1)]
  unfold moreS L
  exact Eq.refl _
theorem crc_Sum_S (b : ByteArray) (hb : b.size ≤ 4611686018427387904) : crc_Sum.f b = some ((sumS2 (L b) : Nat) : Int) := by
  have := crc_More_S 0 b (by omega) hb
  unfold crc_Sum.f
  rw [show (0 : Int) = ((0 : Nat) : Int) from rfl, this]
  exact Eq.refl _
theorem L_seal4 (n : Nat) : L (strOfNums (seal4 (n : Int))) = le4 n := by
  rw [L_strOfNums]
  unfold seal4 le4
  simp only [List.map_cons, List.map_nil]
  congr 2
theorem crc_Seal_S (b : ByteArray) (hb : b.size ≤ 4611686018427387904) : crc_Seal.f b = some (B (sealS (L b))) := by
  unfold crc_Seal.f
  rw [crc_Sum_S b hb, Option.bind_some, if_pos hb]
  exact congrArg some (L_inj (by rw [L_append, L_B, L_seal4]; rfl))
theorem crc_Open_S (b : ByteArray) (hb : b.size ≤ 4611686018427387904) : crc_Open.f b = some (B (openS (L b)).1, (openS (L b)).2) := by
  have hl := L_length b
  unfold crc_Open.f openS
  by_cases h : (L b).length < 4
  · rw [if_pos (by omega), if_pos h]; rfl
  rw [if_neg (by omega), if_neg h, if_pos (by omega), crc_Seal_S _ (by rw [extract_end, B_size, List.length_drop]; omega), Option.bind_some, if_pos (by omega), L_extract_end, if_pos (by rw [B_size, sealS_length]; omega)]
  simp only [toList_L, L_extract_front, L_B, extract_end]
  by_cases h2 : (sealS ((L b).drop 4)).take 4 = (L b).take 4
  · rw [if_pos h2, if_pos h2]
  · rw [if_neg h2, if_neg h2]; rfl
end Go.Proofs.Ytdjkkceamldmjaa.Thw
/-! ## Layer 2, the references: they come to the same plain words. -/
namespace Go.Proofs.Ytdjkkceamldmjaa.Thw
open Go Go.RowKit Go.Proofs.Ytdjkkceamldmjaa.Print Go.Proofs.YtdjkkceamldmjaaW.PrintWords Go.Proofs.YtdjkkceamldmjaaW.PrintLast Go.Proofs.YtdjkkceamldmjaaW.PrintMore
set_option linter.unusedVariables false
set_option linter.unusedSimpArgs false

theorem rstep_N (c : Nat) (h : c < 4294967296) : thwartref02_step.f (c : Int) = some ((stepN c : Nat) : Int) := by
  have e1 : Int.tmod (c : Int) 2 = ((c % 2 : Nat) : Int) := by rw [Int.tmod_eq_emod_of_nonneg (by omega)]; omega
  have e2 : (Int.tdiv (c : Int) 2) % 4294967296 = ((c / 2 : Nat) : Int) := by rw [Int.tdiv_eq_ediv_of_nonneg (by omega)]; omega
  unfold thwartref02_step.f stepN
  rw [e1, e2]
  rcases Nat.mod_two_eq_zero_or_one c with h3 | h3
  · rw [h3, if_neg (by decide), if_neg (by omega), Nat.xor_zero]
  · rw [h3, if_pos (by decide), if_pos rfl, show (2197175160 : Int) = ((2197175160 : Nat) : Int) from rfl, xor_u32 _ _ (by omega) (by omega)]
    unfold polyN
    exact Eq.refl _
theorem ev_rin (b : ByteArray) (i : Nat) (r : Int) : ∀ (d n c : Nat), n + d = 8 → c < 4294967296 → Ev (fun k => thwartref02_More.l0 k b ((stepsN d c : Nat) : Int) (wrap64 ((i : Int) + 1))) r →
    Ev (fun k => thwartref02_More.l1 k b (c : Int) (i : Int) (n : Int)) r
  | 0, n, c, e, h, k0 => by
    refine Ev.step (f := fun k => thwartref02_More.l0 k b (c : Int) (wrap64 ((i : Int) + 1))) (fun k => ?_) k0
    simp only [thwartref02_More.l1]
    rw [if_neg (by omega)]
  | d + 1, n, c, e, h, k0 => by
    have hst : stepsN d (stepN c) = stepsN (d + 1) c := by
      clear k0 e
      induction d with
      | zero => rfl
      | succ d ih => rw [stepsN, ih]; rfl
    refine Ev.step (f := fun k => thwartref02_More.l1 k b ((stepN c : Nat) : Int) (i : Int) ((n + 1 : Nat) : Int)) (fun k => ?_) (ev_rin b i r d (n + 1) (stepN c) (by omega) (stepN_lt c h) (by rw [hst]; exact k0))
    simp only [thwartref02_More.l1]
    rw [if_pos (by omega), rstep_N c h, Option.bind_some, wrap64_in (n := (n : Int) + 1) (by omega) (by omega)]
    exact Eq.refl _
theorem ev_rmore (b : ByteArray) (hb : b.size ≤ 4611686018427387904) : ∀ (d i c : Nat), i + d = (L b).length → c < 4294967296 →
    Ev (fun k => thwartref02_More.l0 k b (c : Int) (i : Int)) ((ones ^^^ moreN ((L b).drop i) c : Nat) : Int)
  | 0, i, c, e, h => by
    have hl := L_length b
    refine Ev.step (f := fun k => some ((ones ^^^ c : Nat) : Int)) (fun k => ?_) ?_
    · simp only [thwartref02_More.l0]
      rw [if_neg (by omega), u32_max, xor_u32 _ _ ones_lt h]
    · rw [List.drop_of_length_le (by omega), moreN_nil]
      exact Ev.now _
  | d + 1, i, c, e, h => by
    have hl := L_length b
    have hi : i < (L b).length := by omega
    have hx := (L b)[i].toNat_lt
    have hlt : c ^^^ (L b)[i].toNat < 4294967296 := Nat.xor_lt_two_pow (n := 32) (by simpa using h) (by omega)
    rw [drop_at _ _ hi, moreN_cons]
    refine Ev.step (f := fun k => thwartref02_More.l1 k b ((c ^^^ (L b)[i].toNat : Nat) : Int) (i : Int) ((0 : Nat) : Int)) (fun k => ?_) (ev_rin b i _ 8 0 _ rfl hlt ?_)
    · simp only [thwartref02_More.l0]
      rw [if_pos (by omega), if_pos (by omega), bt_L b i hi, show (((L b)[i].toNat : Int) % 4294967296) = ((L b)[i].toNat : Int) by omega, xor_u32 _ _ h (by omega)]
      exact Eq.refl _
    · rw [wrap64_in (by omega) (by omega)]
      have := ev_rmore b hb d (i + 1) (byteN c (L b)[i].toNat) (by omega) (byteN_lt c _ h hx)
      exact this
theorem ev_rMore (s : Nat) (b : ByteArray) (hs : s < 4294967296) (hb : b.size ≤ 4611686018427387904) : Ev (fun k => thwartref02_More.f k (s : Int) b) ((moreS s (L b) : Nat) : Int) := by
  have h1 : ones ^^^ s < 4294967296 := Nat.xor_lt_two_pow (n := 32) ones_lt (by simpa using hs)
  have := ev_rmore b hb (L b).length 0 _ (by omega) h1
  rw [List.drop_zero] at this
  unfold thwartref02_More.f moreS
  rw [u32_max, xor_u32 _ _ ones_lt hs]
  exact this
theorem ev_rSum2 (b : ByteArray) (hb : b.size ≤ 4611686018427387904) : Ev (fun k => thwartref02_Sum.f k b) ((sumS2 (L b) : Nat) : Int) := by
  unfold thwartref02_Sum.f
  exact Ev.bind (ev_rMore 0 b (by omega) hb) (Ev.now _)
theorem ev_rSeal (b : ByteArray) (hb : b.size ≤ 4611686018427387904) : Ev (fun k => thwartref02_Seal.f k b) (B (sealS (L b))) := by
  unfold thwartref02_Seal.f
  refine Ev.bind (ev_rSum2 b hb) ?_
  refine ev_bind_now rfl ?_
  have e : strOfNums [(((sumS2 (L b) : Nat) : Int)) % 256, (((sumS2 (L b) : Nat) : Int) / 256) % 256, (((sumS2 (L b) : Nat) : Int) / 65536) % 256, (((sumS2 (L b) : Nat) : Int) / 16777216) % 256] = B (le4 (sumS2 (L b))) := L_inj (by rw [L_B]; exact L_seal4 _)
  rw [e]
  simp only [B_size, le4_length]
  refine ev_if_pos (by omega) ?_
  exact ev_some fun k => congrArg some (L_inj (by rw [L_append, L_B, L_B]; rfl))
theorem ev_rOpen (b : ByteArray) (hb : b.size ≤ 4611686018427387904) : Ev (fun k => thwartref02_Open.f k b) (B (openS (L b)).1, (openS (L b)).2) := by
  have hl := L_length b
  unfold thwartref02_Open.f openS
  by_cases h : (L b).length < 4
  · rw [if_pos h]; exact ev_if_pos (by omega) (Ev.now _)
  rw [if_neg h]
  refine ev_if_neg (by omega) ?_
  refine ev_if_pos (by omega) ?_
  refine Ev.bind (ev_rSeal _ (by rw [extract_end, B_size, List.length_drop]; omega)) ?_
  simp only [toList_L, L_B, extract_end]
  have e : (sealS ((L b).drop 4) = L b) ↔ ((sealS ((L b).drop 4)).take 4 = (L b).take 4) := by
    constructor
    · intro h2; rw [h2]
    · intro h2
      conv => rhs; rw [← List.take_append_drop 4 (L b), ← h2, sealS_take]
      rfl
  by_cases h2 : (sealS ((L b).drop 4)).take 4 = (L b).take 4
  · rw [if_pos h2]; exact ev_if_pos (e.2 h2) (Ev.now _)
  · rw [if_neg h2]; exact ev_if_neg (fun h3 => h2 (e.1 h3)) (Ev.now _)
end Go.Proofs.Ytdjkkceamldmjaa.Thw
/-! ## Layer 3 (record): what the printed functions come to, in the plain words of Plain03. -/
namespace Go.Proofs.Ytdjkkceamldmjaa.Thw
open Go Go.RowKit Go.Proofs.Ytdjkkceamldmjaa.Print Go.Proofs.YtdjkkceamldmjaaW.PrintWords Go.Proofs.YtdjkkceamldmjaaW.PrintLast Go.Proofs.YtdjkkceamldmjaaW.PrintMore
set_option linter.unusedVariables false
set_option linter.unusedSimpArgs false

theorem ev_bt {α : Type} {g f : Nat → Option α} {r : α} (h : Ev g r) : Ev (fun k => if true = true then g k else f k) r := h
theorem ev_bf {α : Type} {g f : Nat → Option α} {r : α} (h : Ev f r) : Ev (fun k => if false = true then g k else f k) r := h
theorem B_isEmpty (l : Bs) : ((B l).toList == ([] : List UInt8)) = decide (l = []) := by rw [toList_L, L_B]; cases l <;> rfl
theorem ev_Right_j (x : Bool) (n : Int) (key val : ByteArray) (g : Bool) : Ev (fun k => record_Right.j0 k x n key val g) (if x = true then false else if g = true then ((val.toList == ([] : List UInt8)) && g) else true) := by
  refine Ev.step (f := fun _ => some (if x = true then false else if g = true then ((val.toList == ([] : List UInt8)) && g) else true)) (fun k => ?_) (Ev.now _)
  rw [record_Right.j0]
  cases x <;> cases g <;> rfl
theorem ev_Right_no (n : Int) (key val : ByteArray) (g : Bool) : Ev (fun k => record_Right.j0 k true n key val g) false := ev_Right_j true n key val g
theorem ev_Right (r : Rec) : Ev (fun k => record_Right.f k (r.seq : Int) (B r.key) (B r.val) r.gone) (rightS r) := by
  unfold record_Right.f
  by_cases h1 : r.seq < 1
  · rw [show rightS r = false by unfold rightS; simp; omega]
    exact ev_if_pos (by omega) (ev_Right_no _ _ _ _)
  refine ev_if_neg (by omega) ?_
  by_cases h2 : r.seq > 1099511627776
  · rw [show rightS r = false by unfold rightS; simp; omega]
    exact ev_if_pos (by omega) (ev_Right_no _ _ _ _)
  refine ev_if_neg (by omega) ?_
  by_cases h3 : r.key = []
  · rw [show rightS r = false by unfold rightS; simp [h3]]
    exact ev_if_pos (by rw [h3, toList_L, L_B]) (ev_Right_no _ _ _ _)
  refine ev_if_neg (by rw [toList_L, L_B]; exact h3) ?_
  have h3' : 1 ≤ r.key.length := List.length_pos_iff.mpr h3
  by_cases h4 : r.key.length > 40
  · rw [show rightS r = false by unfold rightS; simp; omega]
    exact ev_if_pos (by rw [B_size]; omega) (ev_Right_no _ _ _ _)
  refine ev_if_neg (by rw [B_size]; omega) ?_
  have hj := ev_Right_j (decide (((B r.val).size : Int) > 300)) (r.seq : Int) (B r.key) (B r.val) r.gone
  refine cast (congrArg (Ev _) ?_) hj
  rw [B_isEmpty, B_size]
  by_cases h5 : r.val.length > 300
  · rw [show rightS r = false by unfold rightS; simp; omega, if_pos (by simp; omega)]
  · rw [if_neg (by simp; omega)]
    unfold rightS
    rw [decide_eq_true (by omega : 1 ≤ r.seq), decide_eq_true (by omega : r.seq ≤ 1099511627776), decide_eq_true h3', decide_eq_true (by omega : r.key.length ≤ 40), decide_eq_true (by omega : r.val.length ≤ 300)]
    cases r.gone <;> simp
theorem or_one (m : Nat) (h : 2 * m < 18446744073709551616) : Go.bits .or .u64 ((2 * m : Nat) : Int) 1 = ((2 * m + 1 : Nat) : Int) := by
  rw [show (1 : Int) = ((1 : Nat) : Int) from rfl, u64_or_nat (2 * m) 1 (by omega) (by omega)]
  have := Nat.shiftLeft_add_eq_or_of_lt (b := 1) (i := 1) (by decide) m
  rw [Nat.shiftLeft_eq, show m * 2 ^ 1 = 2 * m by omega] at this
  rw [this]
theorem and_one' (n : Nat) (h1 : n < 18446744073709551616) : Go.bits .and .u64 (n : Int) 1 = ((n % 2 : Nat) : Int) := by
  rw [show (1 : Int) = ((1 : Nat) : Int) from rfl, u64_and_nat n 1 (by omega) (by omega), Nat.and_one_is_mod]
theorem B_textS_le (l : Bs) : (B (textS l)).size ≤ 10 + l.length := by rw [B_size]; exact textS_length l
theorem B_putS_le (n : Nat) : (B (putS n)).size ≤ 10 := by rw [B_size]; exact putS_length n
theorem text_B (l : Bs) (h : l.length ≤ 4611686018427387904) : varint_Text.f (B l) = some (B (textS l)) := by
  rw [varint_Text_B _ (by rw [B_size]; exact h), L_B]
theorem ev_Bytes (r : Rec) : Ev (fun k => record_Bytes.f k (r.seq : Int) (B r.key) (B r.val) r.gone) (B (bytesS r).1, (bytesS r).2) := by
  unfold record_Bytes.f
  refine Ev.bind (ev_Right r) ?_
  unfold bytesS
  cases hr : rightS r with
  | false =>
    refine ev_bf ?_
    rw [if_neg (by decide)]
    exact Ev.now _
  | true =>
    refine ev_bt ?_
    rw [if_pos rfl]
    obtain ⟨h1, h2, h3, h4, h5, h6⟩ := right_facts hr
    have a := B_textS_le r.key
    have b := B_textS_le r.val
    have c := B_putS_le (2 * r.seq + 1)
    have d := B_putS_le (2 * r.seq)
    have e : IntKind.u64.wrap ((r.seq : Int) * 2) = ((2 * r.seq : Nat) : Int) := by rw [IntKind.wrap_u64]; omega
    unfold recS
    cases hg : r.gone with
    | true =>
      refine ev_bt ?_
      rw [if_pos rfl]
      rw [e, or_one _ (by omega)]
      refine ev_bind_now (varint_Put_N _ (by omega)) ?_
      refine ev_bind_now (text_B _ (by omega)) ?_
      refine ev_if_pos (by omega) ?_
      rw [B_append]
      exact Ev.now _
    | false =>
      refine ev_bf ?_
      rw [if_neg (by decide)]
      rw [e]
      refine ev_bind_now (varint_Put_N _ (by omega)) ?_
      refine ev_bind_now (text_B _ (by omega)) ?_
      refine ev_if_pos (by omega) ?_
      refine ev_bind_now (text_B _ (by omega)) ?_
      refine ev_if_pos (by omega) ?_
      rw [B_append, B_append]
      exact Ev.now _
def RD (x : Rec × Bs × Int) : Int × ByteArray × ByteArray × Bool × ByteArray × Int := ((x.1.seq : Int), B x.1.key, B x.1.val, x.1.gone, B x.2.1, x.2.2)
theorem ofTextS_len (b : Bs) : (ofTextS b).2.1.length ≤ b.length := by
  rcases ofTextS_told b with ⟨_, _, h⟩ | h | h
  · omega
  · rw [h]; simp
  · rw [h]; simp
theorem ev_OfText_B (b : Bs) (hb : b.length ≤ 4611686018427387904) : Ev (fun k => varint_OfText.f k (B b)) (OT (ofTextS b)) := by
  have := ev_OfText (B b) (by rw [B_size]; exact hb)
  rwa [L_B] at this
theorem ev_Read (b : ByteArray) (hb : b.size ≤ 4611686018427387904) : Ev (fun k => record_Read.f k b) (RD (readS (L b))) := by
  have hl := L_length b
  unfold record_Read.f
  refine Ev.bind (ev_Take b hb) ?_
  unfold readS
  have ht := takeS_told (L b)
  generalize hT : takeS (L b) = T at *
  obtain ⟨n, b1, e1⟩ := T
  simp only [TK] at ht ⊢
  by_cases he1 : e1 = 0
  case neg =>
    rw [if_neg he1]
    exact ev_if_neg he1 (Ev.now _)
  rw [if_pos he1]
  refine ev_if_pos he1 ?_
  obtain ⟨_, _, hn, _, h5⟩ : e1 = 0 ∧ putS n ++ b1 = L b ∧ n < 18446744073709551616 ∧ (L b).length ≤ b1.length + 10 ∧ b1.length < (L b).length := by
    rcases ht with h | h | h
    · exact h
    · injection h with _ h; injection h with _ h; exact absurd (h.symm.trans he1) (by decide)
    · injection h with _ h; injection h with _ h; exact absurd (h.symm.trans he1) (by decide)
  have hlen := ofTextS_len b1
  have hdiv : ((n : Int) / 2) = ((n / 2 : Nat) : Int) := by omega
  simp only [hdiv]
  by_cases hodd : n % 2 = 1
  · have ho : (Go.bits .and .u64 (n : Int) 1 == 1) = true := by rw [and_one' n hn, hodd]; rfl
    refine ev_if_pos ho ?_
    refine Ev.bind (ev_OfText_B b1 (by omega)) ?_
    rw [if_pos hodd]
    generalize hO : ofTextS b1 = O at *
    obtain ⟨key, b2, e2⟩ := O
    simp only [OT] at hlen ⊢
    by_cases he2 : e2 = 0
    case neg =>
      rw [if_neg he2]
      exact ev_if_neg he2 (Ev.now _)
    rw [if_pos he2]
    refine ev_if_pos he2 ?_
    refine Ev.bind (ev_Right ⟨n / 2, key, [], true⟩) ?_
    cases rightS ⟨n / 2, key, [], true⟩
    · exact ev_bf (Ev.now _)
    · exact ev_bt (Ev.now _)
  · have ho : ¬ (Go.bits .and .u64 (n : Int) 1 == 1) = true := by rw [and_one' n hn, show n % 2 = 0 by omega]; decide
    refine ev_if_neg ho ?_
    refine Ev.bind (ev_OfText_B b1 (by omega)) ?_
    rw [if_neg hodd]
    generalize hO : ofTextS b1 = O at *
    obtain ⟨key, b2, e2⟩ := O
    simp only [OT] at hlen ⊢
    by_cases he2 : e2 = 0
    case neg =>
      rw [if_neg he2]
      exact ev_if_neg he2 (Ev.now _)
    rw [if_pos he2]
    refine ev_if_pos he2 ?_
    refine Ev.bind (ev_OfText_B b2 (by omega)) ?_
    generalize hO : ofTextS b2 = O at *
    obtain ⟨val, b3, e3⟩ := O
    simp only [OT] at ⊢
    by_cases he3 : e3 = 0
    case neg =>
      rw [if_neg he3]
      exact ev_if_neg he3 (Ev.now _)
    rw [if_pos he3]
    refine ev_if_pos he3 ?_
    refine Ev.bind (ev_Right ⟨n / 2, key, val, false⟩) ?_
    cases rightS ⟨n / 2, key, val, false⟩
    · exact ev_bf (Ev.now _)
    · exact ev_bt (Ev.now _)
end Go.Proofs.Ytdjkkceamldmjaa.Thw
/-! ## Layer 3, the references: they come to the same plain words. -/
namespace Go.Proofs.Ytdjkkceamldmjaa.Thw
open Go Go.RowKit Go.Proofs.Ytdjkkceamldmjaa.Print Go.Proofs.YtdjkkceamldmjaaW.PrintWords Go.Proofs.YtdjkkceamldmjaaW.PrintLast Go.Proofs.YtdjkkceamldmjaaW.PrintMore
set_option linter.unusedVariables false
set_option linter.unusedSimpArgs false

theorem rRight (r : Rec) : thwartref03_Right.f (r.seq : Int) (B r.key) (B r.val) r.gone = some (rightS r) := by
  unfold thwartref03_Right.f rightS
  rw [B_size, B_size, toList_L, L_B]
  by_cases h1 : 1 ≤ r.seq
  case neg => rw [if_neg (by omega)]; simp; omega
  rw [if_pos (by omega), decide_eq_true h1]
  by_cases h2 : r.seq ≤ 1099511627776
  case neg => rw [if_neg (by omega)]; simp; omega
  rw [if_pos (by omega), decide_eq_true h2]
  by_cases h3 : 1 ≤ r.key.length
  case neg => rw [if_neg (by omega)]; simp; omega
  rw [if_pos (by omega), decide_eq_true h3]
  by_cases h4 : r.key.length ≤ 40
  case neg => rw [if_neg (by omega)]; simp; omega
  rw [if_pos (by omega), decide_eq_true h4]
  by_cases h5 : r.val.length ≤ 300
  case neg => rw [if_neg (by omega)]; simp; omega
  rw [if_pos (by omega), decide_eq_true h5]
  cases r.gone
  · rfl
  · rw [if_pos rfl]
    cases r.val <;> rfl
theorem ev_rBytes (r : Rec) : Ev (fun k => thwartref03_Bytes.f k (r.seq : Int) (B r.key) (B r.val) r.gone) (B (bytesS r).1, (bytesS r).2) := by
  unfold thwartref03_Bytes.f
  refine ev_bind_now (rRight r) ?_
  unfold bytesS
  cases hr : rightS r with
  | false =>
    refine ev_bf ?_
    rw [if_neg (by decide)]
    exact Ev.now _
  | true =>
    refine ev_bt ?_
    rw [if_pos rfl]
    obtain ⟨h1, h2, h3, h4, h5, h6⟩ := right_facts hr
    have a := B_textS_le r.key
    have b := B_textS_le r.val
    have c := B_putS_le (2 * r.seq + 1)
    have d := B_putS_le (2 * r.seq)
    have e : IntKind.u64.wrap (2 * (r.seq : Int)) = ((2 * r.seq : Nat) : Int) := by rw [IntKind.wrap_u64]; omega
    have e' : IntKind.u64.wrap (((2 * r.seq : Nat) : Int) + 1) = ((2 * r.seq + 1 : Nat) : Int) := by rw [IntKind.wrap_u64]; omega
    unfold recS
    cases hg : r.gone with
    | true =>
      refine ev_bt ?_
      rw [if_pos rfl]
      rw [e, e']
      refine Ev.bind (ev_rPutS _ (by omega)) ?_
      refine Ev.bind (ev_rText_B _ (by omega)) ?_
      refine ev_if_pos (by omega) ?_
      rw [B_append]
      exact Ev.now _
    | false =>
      refine ev_bf ?_
      rw [if_neg (by decide)]
      rw [e]
      refine Ev.bind (ev_rPutS _ (by omega)) ?_
      refine Ev.bind (ev_rText_B _ (by omega)) ?_
      refine ev_if_pos (by omega) ?_
      refine Ev.bind (ev_rText_B _ (by omega)) ?_
      refine ev_if_pos (by omega) ?_
      rw [B_append, B_append]
      exact Ev.now _
theorem ev_rRead (b : ByteArray) (hb : b.size ≤ 4611686018427387904) : Ev (fun k => thwartref03_Read.f k b) (RD (readS (L b))) := by
  have hl := L_length b
  unfold thwartref03_Read.f
  refine Ev.bind (ev_rTake b hb) ?_
  unfold readS
  have ht := takeS_told (L b)
  generalize hT : takeS (L b) = T at *
  obtain ⟨n, b1, e1⟩ := T
  simp only [TK] at ht ⊢
  by_cases he1 : e1 = 0
  case neg =>
    rw [if_neg he1]
    exact ev_if_neg he1 (Ev.now _)
  rw [if_pos he1]
  refine ev_if_pos he1 ?_
  obtain ⟨_, _, hn, _, h5⟩ : e1 = 0 ∧ putS n ++ b1 = L b ∧ n < 18446744073709551616 ∧ (L b).length ≤ b1.length + 10 ∧ b1.length < (L b).length := by
    rcases ht with h | h | h
    · exact h
    · injection h with _ h; injection h with _ h; exact absurd (h.symm.trans he1) (by decide)
    · injection h with _ h; injection h with _ h; exact absurd (h.symm.trans he1) (by decide)
  have hlen := ofTextS_len b1
  refine Ev.bind (ev_rOfText_B b1 (by omega)) ?_
  generalize hO : ofTextS b1 = O at *
  obtain ⟨key, b2, e2⟩ := O
  simp only [OT] at hlen ⊢
  by_cases he2 : e2 = 0
  case neg =>
    rw [if_neg he2]
    exact ev_if_neg he2 (Ev.now _)
  rw [if_pos he2]
  refine ev_if_pos he2 ?_
  simp only [rhalf n hn]
  by_cases hodd : n % 2 = 1
  · rw [if_pos hodd]
    have ho : Int.tmod (n : Int) 2 = 1 := by rw [rodd, hodd]; rfl
    refine ev_if_pos ho ?_
    rw [show (Int.tmod (n : Int) 2 == 1) = true by rw [ho]; rfl]
    refine ev_bind_now (rRight ⟨n / 2, key, [], true⟩) ?_
    cases rightS ⟨n / 2, key, [], true⟩
    · exact ev_bf (Ev.now _)
    · exact ev_bt (Ev.now _)
  · rw [if_neg hodd]
    have ho : Int.tmod (n : Int) 2 = 0 := by rw [rodd, show n % 2 = 0 by omega]; rfl
    refine ev_if_neg (by rw [ho]; decide) ?_
    rw [show (Int.tmod (n : Int) 2 == 1) = false by rw [ho]; rfl]
    refine Ev.bind (ev_rOfText_B b2 (by omega)) ?_
    generalize hO : ofTextS b2 = O at *
    obtain ⟨val, b3, e3⟩ := O
    simp only [OT] at ⊢
    by_cases he3 : e3 = 0
    case neg =>
      rw [if_neg he3]
      exact ev_if_neg he3 (Ev.now _)
    rw [if_pos he3]
    refine ev_if_pos he3 ?_
    refine ev_bind_now (rRight ⟨n / 2, key, val, false⟩) ?_
    cases rightS ⟨n / 2, key, val, false⟩
    · exact ev_bf (Ev.now _)
    · exact ev_bt (Ev.now _)
end Go.Proofs.Ytdjkkceamldmjaa.Thw
/-! ## Layer 3, many records: All, List, and those of the references, Same, Light. -/
namespace Go.Proofs.Ytdjkkceamldmjaa.Thw
open Go Go.RowKit Go.Proofs.Ytdjkkceamldmjaa.Print Go.Proofs.YtdjkkceamldmjaaW.PrintWords Go.Proofs.YtdjkkceamldmjaaW.PrintLast Go.Proofs.YtdjkkceamldmjaaW.PrintMore
set_option linter.unusedVariables false
set_option linter.unusedSimpArgs false

abbrev SR := S45
def RS (r : Rec) : SR := ⟨(r.seq : Int), B r.key, B r.val, r.gone⟩
theorem rd_RS (rs : List Rec) (i : Nat) (h : i < rs.length) : rd_T45 (rs.map RS) (i : Int) = RS rs[i] := by
  unfold rd_T45
  simp [List.getD_eq_getElem?_getD, h]
/-! ### All -/
def finA (acc : ByteArray) (x : Bs × Int) : ByteArray × Int := if x.2 = 0 then (acc ++ B x.1, 0) else (⟨#[]⟩, x.2)
theorem finA_cons {acc : ByteArray} {r : Rec} {l : List Rec} (hr : rightS r = true) : finA acc (allS (r :: l)) = finA (acc ++ B (recS r)) (allS l) := by
  rw [allS, if_pos hr]
  unfold finA
  by_cases h : (allS l).2 = 0
  · rw [if_pos h, if_pos rfl, if_pos h, B_append]
    simp [ByteArray.append_assoc]
  · rw [if_neg h, if_neg h, if_neg h]
theorem finA_bad {acc : ByteArray} {r : Rec} {l : List Rec} (hr : rightS r = false) : finA acc (allS (r :: l)) = (⟨#[]⟩, 1) := by
  rw [allS, hr, if_neg (by decide)]
  rfl
theorem drop_cons {α : Type} (l : List α) (i : Nat) (h : i < l.length) : l.drop i = l[i] :: l.drop (i + 1) := List.drop_eq_getElem_cons h
theorem ev_rall (rs : List Rec) (hn : rs.length ≤ 1000000000) : ∀ (d i : Nat) (acc : ByteArray), i + d = rs.length → acc.size ≤ 380 * i →
    Ev (fun k => thwartref03_All.l0 k (rs.map RS) acc (i : Int)) (finA acc (allS (rs.drop i))) := by
  intro d
  induction d with
  | zero =>
    intro i acc hi ha
    refine Ev.step (fun k => by rw [thwartref03_All.l0]) ?_
    refine ev_if_neg (by simp; omega) ?_
    rw [List.drop_eq_nil_of_le (by omega)]
    refine ev_some fun k => ?_
    simp [finA, allS, B_nil]
    exact L_inj (by rw [L_append]; simp [L])
  | succ d ih =>
    intro i acc hi ha
    have hlt : i < rs.length := by omega
    refine Ev.step (fun k => by rw [thwartref03_All.l0]) ?_
    refine ev_if_pos (by simp; omega) ?_
    refine ev_if_pos (by omega) ?_
    simp only [rd_RS rs i hlt]
    refine Ev.bind (ev_rBytes rs[i]) ?_
    rw [drop_cons rs i hlt]
    unfold bytesS
    cases hr : rightS rs[i] with
    | false =>
      rw [finA_bad hr, if_neg (by decide)]
      exact ev_if_neg (by decide) (Ev.now _)
    | true =>
      rw [finA_cons hr, if_pos rfl]
      have hz : (B (recS rs[i])).size ≤ 380 := by rw [B_size]; exact recS_length hr
      refine ev_if_pos rfl ?_
      refine ev_if_pos (by show acc.size + (B (recS rs[i])).size ≤ _; omega) ?_
      rw [wrap64_in (by omega) (by omega)]
      exact ih (i + 1) _ (by omega) (by rw [ByteArray.size_append]; show acc.size + (B (recS rs[i])).size ≤ _; omega)
theorem ev_rAll (rs : List Rec) (hn : rs.length ≤ 1000000000) : Ev (fun k => thwartref03_All.f k (rs.map RS)) (B (allS rs).1, (allS rs).2) := by
  unfold thwartref03_All.f
  have := ev_rall rs hn rs.length 0 ⟨#[]⟩ (by omega) (by decide)
  rw [List.drop_zero] at this
  refine cast (congrArg (Ev _) ?_) this
  unfold finA
  rcases allS_right rs with ⟨h, _⟩ | h
  · rw [if_pos h, h]; exact congrArg (fun x => (x, (0 : Int))) (L_inj (by rw [L_append]; simp [L]))
  · rw [h]; rfl
/-! ### List -/
def finL (acc : List Rec) (x : List Rec × Int) : List SR × Int := if x.2 = 0 then ((acc ++ x.1).map RS, 0) else ([], x.2)
theorem finL_cons {acc : List Rec} {f : Nat} {b : Bs} (hb : b ≠ []) (h : (readS b).2.2 = 0) : finL acc (listR (f + 1) b) = finL (acc ++ [(readS b).1]) (listR f (readS b).2.1) := by
  rw [listR, if_neg hb, if_pos h]
  unfold finL
  by_cases h2 : (listR f (readS b).2.1).2 = 0
  · rw [if_pos h2, if_pos rfl, if_pos h2]; simp
  · rw [if_neg h2, if_neg h2, if_neg h2]
theorem finL_bad {acc : List Rec} {f : Nat} {b : Bs} (hb : b ≠ []) (h : (readS b).2.2 ≠ 0) : finL acc (listR (f + 1) b) = ([], (readS b).2.2) := by
  rw [listR, if_neg hb, if_neg h]
  unfold finL
  rw [if_neg h]
theorem readS_len (b : Bs) (h : (readS b).2.2 = 0) : (readS b).2.1.length < b.length := by
  rcases readS_told b with ⟨_, _, _, h4⟩ | h1 | h1
  · exact h4
  · rw [h1] at h; exact absurd h (by decide)
  · rw [h1] at h; exact absurd h (by decide)
theorem ev_list : ∀ (f : Nat) (b : Bs) (acc : List Rec), b.length ≤ f → acc.length + b.length ≤ 1000000000 →
    Ev (fun k => record_List.l0 k (B b) (acc.map RS)) (finL acc (listR f b)) := by
  intro f
  induction f with
  | zero =>
    intro b acc hb ha
    have : b = [] := List.length_eq_zero_iff.mp (by omega)
    subst this
    refine Ev.step (fun k => by rw [record_List.l0]) ?_
    refine ev_if_pos (by rw [toList_L, L_B]) ?_
    exact ev_some fun k => by simp [finL, listR]
  | succ f ih =>
    intro b acc hb ha
    refine Ev.step (fun k => by rw [record_List.l0]) ?_
    by_cases hn : b = []
    · subst hn
      refine ev_if_pos (by rw [toList_L, L_B]) ?_
      exact ev_some fun k => by simp [finL, listR]
    have hp : 0 < b.length := List.length_pos_iff.mpr hn
    refine ev_if_neg (by rw [toList_L, L_B]; exact hn) ?_
    have he := ev_Read (B b) (by rw [B_size]; omega)
    rw [L_B] at he
    refine Ev.bind he ?_
    by_cases h : (readS b).2.2 = 0
    · rw [finL_cons hn h]
      refine ev_if_pos h ?_
      refine ev_if_pos (by simp; omega) ?_
      have hlen := readS_len b h
      have := ih (readS b).2.1 (acc ++ [(readS b).1]) (by omega) (by simp; omega)
      rw [List.map_append] at this
      exact this
    · rw [finL_bad hn h]
      exact ev_if_neg h (Ev.now _)
theorem finL_start (b : Bs) : finL [] (listR b.length b) = ((listS b).1.map RS, (listS b).2) := by
  unfold finL listS
  rcases listS_told b with ⟨h, _⟩ | h | h <;> unfold listS at h <;> rw [h] <;> rfl
theorem ev_List (b : ByteArray) (hb : b.size ≤ 1000000000) : Ev (fun k => record_List.f k b) ((listS (L b)).1.map RS, (listS (L b)).2) := by
  unfold record_List.f
  have hl := L_length b
  have := ev_list (L b).length (L b) [] (Nat.le_refl _) (by simp; omega)
  rw [finL_start, B_L] at this
  exact this
theorem ev_rlist : ∀ (f : Nat) (b : Bs) (acc : List Rec), b.length ≤ f → acc.length + b.length ≤ 1000000000 →
    Ev (fun k => thwartref03_List.l0 k (B b) (acc.map RS)) (finL acc (listR f b)) := by
  intro f
  induction f with
  | zero =>
    intro b acc hb ha
    have : b = [] := List.length_eq_zero_iff.mp (by omega)
    subst this
    refine Ev.step (fun k => by rw [thwartref03_List.l0]) ?_
    refine ev_if_neg (by rw [B_size]; decide) ?_
    exact ev_some fun k => by simp [finL, listR]
  | succ f ih =>
    intro b acc hb ha
    refine Ev.step (fun k => by rw [thwartref03_List.l0]) ?_
    by_cases hn : b = []
    · subst hn
      refine ev_if_neg (by rw [B_size]; decide) ?_
      exact ev_some fun k => by simp [finL, listR]
    have hp : 0 < b.length := List.length_pos_iff.mpr hn
    refine ev_if_pos (by rw [B_size]; omega) ?_
    have he := ev_rRead (B b) (by rw [B_size]; omega)
    rw [L_B] at he
    refine Ev.bind he ?_
    by_cases h : (readS b).2.2 = 0
    · rw [finL_cons hn h]
      refine ev_if_pos h ?_
      refine ev_if_pos (by simp; omega) ?_
      have hlen := readS_len b h
      have := ih (readS b).2.1 (acc ++ [(readS b).1]) (by omega) (by simp; omega)
      rw [List.map_append] at this
      exact this
    · rw [finL_bad hn h]
      exact ev_if_neg h (Ev.now _)
theorem ev_rList (b : ByteArray) (hb : b.size ≤ 1000000000) : Ev (fun k => thwartref03_List.f k b) ((listS (L b)).1.map RS, (listS (L b)).2) := by
  unfold thwartref03_List.f
  have hl := L_length b
  have := ev_rlist (L b).length (L b) [] (Nat.le_refl _) (by simp; omega)
  rw [finL_start, B_L] at this
  exact this
/-! ### Same -/
/-! ### Light -/
end Go.Proofs.Ytdjkkceamldmjaa.Thw
/-! ## Layer 4 (frame), for layer 5's laws: what the printed functions come to, in the plain words of Plain04. -/
namespace Go.Proofs.Ytdjkkceamldmjaa.Thw
open Go Go.RowKit Go.Proofs.Ytdjkkceamldmjaa.Print Go.Proofs.YtdjkkceamldmjaaW.PrintWords Go.Proofs.YtdjkkceamldmjaaW.PrintLast Go.Proofs.YtdjkkceamldmjaaW.PrintMore
set_option linter.unusedVariables false
set_option linter.unusedSimpArgs false

theorem fits_f (n : Nat) : frame_fits.f (n : Int) = some (decide (1 ≤ n) && decide (n ≤ 16)) := by
  unfold frame_fits.f
  by_cases h : 1 ≤ n
  · rw [if_pos (by omega), decide_eq_true h]
    congr 1
    simp
    omega
  · rw [if_neg (by omega), decide_eq_false h]
    rfl
theorem ev_rSeal_B (l : Bs) (h : l.length ≤ 4611686018427387904) : Ev (fun k => thwartref02_Seal.f k (B l)) (B (sealS l)) := by
  have := ev_rSeal (B l) (by rw [B_size]; exact h)
  rwa [L_B] at this
theorem ev_rframeBytes (l : List Rec) : Ev (fun k => thwartref04_Bytes.f k (l.map RS)) (B (frameS l).1, (frameS l).2) := by
  have no : fitsS l = false → Ev (fun k => thwartref04_Bytes.j0 k (l.map RS) true) (B (frameS l).1, (frameS l).2) := by
    intro h
    refine Ev.step (fun k => by rw [thwartref04_Bytes.j0]) ?_
    unfold frameS
    rw [h]
    exact ev_bt (Ev.now _)
  unfold thwartref04_Bytes.f
  rw [List.length_map]
  by_cases h1 : 1 ≤ l.length
  case neg => exact ev_if_pos (by omega) (no (by unfold fitsS; simp; omega))
  refine ev_if_neg (by omega) ?_
  by_cases h2 : l.length ≤ 16
  case neg =>
    rw [decide_eq_true (by omega)]
    exact no (by unfold fitsS; simp; omega)
  rw [decide_eq_false (by omega)]
  have hf : fitsS l = true := by unfold fitsS; simp; omega
  refine Ev.step (fun k => by rw [thwartref04_Bytes.j0]) ?_
  refine ev_bf ?_
  refine Ev.bind (ev_rAll l (by omega)) ?_
  unfold frameS
  rw [hf, if_pos (rfl : true = true)]
  by_cases ha : (allS l).2 = 0
  · refine ev_if_pos ha ?_
    rw [if_pos ha]
    have h1 := allS_length l
    refine Ev.bind (ev_rSeal_B _ (by omega)) ?_
    have h2 := seal_len hf
    refine Ev.bind (ev_rText_B _ (by omega)) ?_
    exact Ev.now _
  · refine ev_if_neg ha ?_
    rw [if_neg ha]
    exact Ev.now _
def TF (x : List Rec × Int × Int) : List SR × Int × Int := (x.1.map RS, x.2.1, x.2.2)
theorem ofTextS_len1 (b : Bs) : (ofTextS b).1.length ≤ b.length := by
  rcases ofTextS_told b with ⟨_, h, _⟩ | h | h
  · have : (textS (ofTextS b).1 ++ (ofTextS b).2.1).length = b.length := by rw [h]
    unfold textS at this
    simp at this
    omega
  · rw [h]; simp
  · rw [h]; simp
theorem openS_len (l : Bs) : (openS l).1.length ≤ l.length := by
  rcases openS_told l with ⟨s, h1, h2⟩ | h
  · rw [h1, ← h2, sealS_length]; simp
  · rw [h]; simp
theorem open_B (l : Bs) (h : l.length ≤ 4611686018427387904) : crc_Open.f (B l) = some (B (openS l).1, (openS l).2) := by
  rw [crc_Open_S _ (by rw [B_size]; exact h), L_B]
theorem ev_rOpen_B (l : Bs) (h : l.length ≤ 4611686018427387904) : Ev (fun k => thwartref02_Open.f k (B l)) (B (openS l).1, (openS l).2) := by
  have := ev_rOpen (B l) (by rw [B_size]; exact h)
  rwa [L_B] at this
theorem ev_List_B (l : Bs) (h : l.length ≤ 1000000000) : Ev (fun k => record_List.f k (B l)) ((listS l).1.map RS, (listS l).2) := by
  have := ev_List (B l) (by rw [B_size]; exact h)
  rwa [L_B] at this
theorem ev_rList_B (l : Bs) (h : l.length ≤ 1000000000) : Ev (fun k => thwartref03_List.f k (B l)) ((listS l).1.map RS, (listS l).2) := by
  have := ev_rList (B l) (by rw [B_size]; exact h)
  rwa [L_B] at this
theorem ev_frameTake (b : ByteArray) (hb : b.size ≤ 1000000000) : Ev (fun k => frame_Take.f k b) (TF (takeF (L b))) := by
  have hl := L_length b
  unfold frame_Take.f
  refine Ev.bind (ev_OfText b (by omega)) ?_
  unfold takeF
  have z1 := ofTextS_len (L b)
  have z2 := ofTextS_len1 (L b)
  generalize ofTextS (L b) = O at *
  obtain ⟨t, rest, e⟩ := O
  simp only [OT] at z1 z2 ⊢
  by_cases he : e = 0
  case neg => rw [if_neg he]; exact ev_if_neg he (Ev.now _)
  rw [if_pos he]
  refine ev_if_pos he ?_
  refine ev_bind_now (open_B t (by omega)) ?_
  have z3 := openS_len t
  generalize openS t = P at *
  obtain ⟨s, ok⟩ := P
  simp only [] at z3 ⊢
  cases ok with
  | false => exact ev_bf (Ev.now _)
  | true =>
    refine ev_bt ?_
    refine Ev.bind (ev_List_B s (by omega)) ?_
    rw [if_pos (rfl : true = true)]
    by_cases h2 : (listS s).2 = 0
    case neg =>
      refine ev_if_neg h2 ?_
      rw [if_neg h2]
      exact Ev.now _
    refine ev_if_pos h2 ?_
    rw [if_pos h2]
    refine ev_bind_now (by rw [List.length_map, fits_f]) ?_
    change Ev (fun k => if fitsS (listS s).1 = true then _ else _) _
    cases hf : fitsS (listS s).1 with
    | false => exact ev_bf (Ev.now _)
    | true =>
      refine ev_bt ?_
      refine ev_some fun k => ?_
      rw [wrap64_in (by rw [B_size]; omega) (by rw [B_size]; omega), B_size, if_pos (rfl : true = true), hl]
      rfl
theorem ev_rframeTake (b : ByteArray) (hb : b.size ≤ 1000000000) : Ev (fun k => thwartref04_Take.f k b) (TF (takeF (L b))) := by
  have hl := L_length b
  unfold thwartref04_Take.f
  refine Ev.bind (ev_rOfText b (by omega)) ?_
  unfold takeF
  have z1 := ofTextS_len (L b)
  have z2 := ofTextS_len1 (L b)
  generalize ofTextS (L b) = O at *
  obtain ⟨t, rest, e⟩ := O
  simp only [OT] at z1 z2 ⊢
  by_cases he : e = 0
  case neg => rw [if_neg he]; exact ev_if_neg he (Ev.now _)
  rw [if_pos he]
  refine ev_if_pos he ?_
  refine Ev.bind (ev_rOpen_B t (by omega)) ?_
  have z3 := openS_len t
  generalize openS t = P at *
  obtain ⟨s, ok⟩ := P
  simp only [] at z3 ⊢
  cases ok with
  | false => exact ev_bf (Ev.now _)
  | true =>
    refine ev_bt ?_
    refine Ev.bind (ev_rList_B s (by omega)) ?_
    rw [if_pos (rfl : true = true)]
    by_cases h2 : (listS s).2 = 0
    case neg =>
      refine ev_if_neg h2 ?_
      rw [if_neg h2]
      exact Ev.now _
    refine ev_if_pos h2 ?_
    rw [if_pos h2]
    simp only [List.length_map]
    by_cases h3 : 1 ≤ (listS s).1.length
    case neg =>
      rw [show fitsS (listS s).1 = false by unfold fitsS; simp; omega]
      exact ev_if_pos (by omega) (Ev.now _)
    refine ev_if_neg (by omega) ?_
    by_cases h4 : (listS s).1.length ≤ 16
    case neg =>
      rw [show fitsS (listS s).1 = false by unfold fitsS; simp; omega]
      exact ev_if_pos (by omega) (Ev.now _)
    refine ev_if_neg (by omega) ?_
    rw [show fitsS (listS s).1 = true by unfold fitsS; simp; omega]
    refine ev_some fun k => ?_
    rw [wrap64_in (by rw [B_size]; omega) (by rw [B_size]; omega), B_size, if_pos (rfl : true = true), hl]
    rfl
/-! ### Scan -/
def RSS (ls : List (List Rec)) : List (List SR) := ls.map (List.map RS)
def finC (acc : List (List Rec)) (at_ : Nat) (x : List (List Rec) × Nat) : List (List SR) × Int := (RSS (acc ++ x.1), ((at_ + x.2 : Nat) : Int))
def SC (b : ByteArray) : List (List SR) × Int := (RSS (scanS (L b)).1, ((scanS (L b)).2 : Int))
theorem ev_rscan (b : ByteArray) (hb : b.size ≤ 100000000) : ∀ (f at_ : Nat) (acc : List (List Rec)), (L b).length ≤ at_ + f → at_ ≤ (L b).length → acc.length ≤ at_ →
    Ev (fun k => thwartref04_Scan.l0 k b (RSS acc) (at_ : Int)) (finC acc at_ (scanR f ((L b).drop at_))) := by
  have hl := L_length b
  intro f
  induction f with
  | zero =>
    intro at_ acc h1 h2 h3
    refine Ev.step (fun k => by rw [thwartref04_Scan.l0]) ?_
    refine ev_if_pos (by omega) ?_
    refine ev_if_pos (by omega) ?_
    simp only [Int.toNat_natCast, extract_end]
    rw [List.drop_eq_nil_of_le (by omega)]
    refine Ev.bind (ev_rframeTake _ (by decide)) ?_
    rw [L_B]
    refine ev_if_neg (by decide +kernel) ?_
    exact ev_some fun k => by simp [finC, scanR]
  | succ f ih =>
    intro at_ acc h1 h2 h3
    refine Ev.step (fun k => by rw [thwartref04_Scan.l0]) ?_
    refine ev_if_pos (by omega) ?_
    refine ev_if_pos (by omega) ?_
    simp only [Int.toNat_natCast, extract_end]
    refine Ev.bind (ev_rframeTake _ (by rw [B_size]; simp; omega)) ?_
    rw [L_B, scanR]
    obtain ⟨t1, t2, t3, t4⟩ := takeF_range ((L b).drop at_)
    rw [List.length_drop] at t2
    by_cases h : (takeF ((L b).drop at_)).2.2 = 0
    · rw [if_pos h]
      refine ev_if_pos h ?_
      have t3 := t3 h
      refine ev_if_pos (by show (RSS acc).length < _; unfold RSS; rw [List.length_map]; omega) ?_
      have e : wrap64 ((at_ : Int) + (TF (takeF ((L b).drop at_))).2.1) = ((at_ + (takeF ((L b).drop at_)).2.1.toNat : Nat) : Int) := by
        show wrap64 ((at_ : Int) + (takeF ((L b).drop at_)).2.1) = _
        rw [wrap64_in (by omega) (by omega)]; omega
      rw [e]
      have := ih (at_ + (takeF ((L b).drop at_)).2.1.toNat) (acc ++ [(takeF ((L b).drop at_)).1]) (by omega) (by omega) (by simp; omega)
      rw [← List.drop_drop] at this
      have e2 : RSS acc ++ [(TF (takeF ((L b).drop at_))).1] = RSS (acc ++ [(takeF ((L b).drop at_)).1]) := by simp [RSS, TF]
      rw [e2]
      refine cast (congrArg (Ev _) ?_) this
      unfold finC
      simp [Nat.add_assoc]
    · rw [if_neg h]
      refine ev_if_neg h ?_
      exact ev_some fun k => by simp [finC]
theorem ev_rScan (b : ByteArray) (hb : b.size ≤ 100000000) : Ev (fun k => thwartref04_Scan.f k b) (SC b) := by
  unfold thwartref04_Scan.f
  have := ev_rscan b hb (L b).length 0 [] (by omega) (by omega) (by simp)
  refine cast (congrArg (Ev _) ?_) this
  simp [finC, SC, scanS]
/-! ### Same -/
theorem rd_RSS (ls : List (List Rec)) (i : Nat) (h : i < ls.length) : rd_L10 (RSS ls) (i : Int) = (ls[i]).map RS := by
  unfold rd_L10 RSS
  simp [List.getD_eq_getElem?_getD, h]
/-! ### Cuts -/
/-- The bytes of the first j batches. -/
def cat (ls : List (List Rec)) (j : Nat) : Bs := framesS (ls.take j)
theorem cat_succ (ls : List (List Rec)) (j : Nat) (h : j < ls.length) : cat ls (j + 1) = cat ls j ++ (frameS ls[j]).1 := by
  unfold cat framesS
  rw [List.take_succ_eq_append_getElem h, List.map_append, List.flatten_append]
  simp only [List.map_cons, List.map_nil, List.flatten_cons, List.flatten_nil, List.append_nil]
theorem cat_split (ls : List (List Rec)) (j : Nat) : framesS ls = cat ls j ++ framesS (ls.drop j) := by
  unfold cat framesS
  rw [← List.flatten_append, ← List.map_append, List.take_append_drop]
end Go.Proofs.Ytdjkkceamldmjaa.Thw
/-! ## Layer 5 (hint): entries in Go's words and in plain words (for HintTells and HintEach). -/
namespace Go.Proofs.Ytdjkkceamldmjaa.Thw
open Go Go.RowKit Go.Proofs.Ytdjkkceamldmjaa.Print Go.Proofs.YtdjkkceamldmjaaW.PrintWords Go.Proofs.YtdjkkceamldmjaaW.PrintLast Go.Proofs.YtdjkkceamldmjaaW.PrintMore
set_option linter.unusedVariables false
set_option linter.unusedSimpArgs false
abbrev SE := S39
abbrev SF := S49
def ES (e : Ent) : SE := ⟨B e.key, e.off, e.len, (e.seq : Int), e.gone⟩
def EF (e : Ent) : SF := ⟨B e.key, e.off, e.len, (e.seq : Int), e.gone⟩
theorem unES (x : SE) (h : 0 ≤ x.f3) : ∃ e : Ent, x = ES e := by
  obtain ⟨a, b, c, d, g⟩ := x
  obtain ⟨n, rfl⟩ := Int.eq_ofNat_of_zero_le h
  exact ⟨⟨L a, b, c, n, g⟩, by simp [ES, B_L]⟩
theorem rd_ES (es : List Ent) (i : Nat) (h : i < es.length) : rd_T39 (es.map ES) (i : Int) = ES es[i] := by
  unfold rd_T39
  simp [List.getD_eq_getElem?_getD, h]
theorem rd_EF (es : List Ent) (i : Nat) (h : i < es.length) : rd_T49 (es.map EF) (i : Int) = EF es[i] := by
  unfold rd_T49
  simp [List.getD_eq_getElem?_getD, h]
theorem right_E (e : Ent) : hint_right.f (B e.key) e.off e.len (e.seq : Int) e.gone = some (rightE e) := by
  unfold hint_right.f rightE
  rw [B_size]
  congr 1
  rw [Bool.eq_iff_iff]
  simp only [Bool.and_eq_true, decide_eq_true_eq]
  omega
theorem rright_E (e : Ent) : thwartref05_Right.f (B e.key) e.off e.len (e.seq : Int) e.gone = some (rightE e) := by
  unfold thwartref05_Right.f rightE
  rw [B_size]
  by_cases h1 : 1 ≤ e.key.length
  case neg => rw [if_neg (by omega)]; congr 1; rw [decide_eq_false (by omega)]
  rw [if_pos (by omega)]
  by_cases h2 : e.key.length ≤ 40
  case neg => rw [if_neg (by omega)]; congr 1; rw [decide_eq_false (by omega)]
  rw [if_pos (by omega)]
  by_cases h3 : 0 ≤ e.off
  case neg => rw [if_neg (by omega)]; congr 1; rw [decide_eq_false (by omega)]
  rw [if_pos (by omega)]
  by_cases h4 : e.off ≤ 1048576
  case neg => rw [if_neg (by omega)]; congr 1; rw [decide_eq_false (by omega)]
  rw [if_pos (by omega)]
  by_cases h5 : 1 ≤ e.len
  case neg => rw [if_neg (by omega)]; congr 1; rw [decide_eq_false (by omega)]
  rw [if_pos (by omega)]
  by_cases h6 : e.len ≤ 400
  case neg => rw [if_neg (by omega)]; congr 1; rw [decide_eq_false (by omega)]
  rw [if_pos (by omega)]
  by_cases h7 : 1 ≤ e.seq
  case neg => rw [if_neg (by omega)]; congr 1; rw [decide_eq_false (by omega)]
  rw [if_pos (by omega)]
  congr 1
  rw [Bool.eq_iff_iff]
  simp only [decide_eq_true_eq]
  omega
theorem ev_to_l (l : List Ent) (hn : l.length ≤ 1000000000000) : ∀ (d i : Nat), i + d = l.length →
    Ev (fun k => thwartlaw05_to.l0 k (l.map ES) ((l.take i).map EF) (i : Int)) (l.map EF) := by
  intro d
  induction d with
  | zero =>
    intro i hi
    refine Ev.step (fun k => by rw [thwartlaw05_to.l0]) ?_
    refine ev_if_neg (by rw [List.length_map]; omega) ?_
    rw [List.take_of_length_le (by omega)]
    exact Ev.now _
  | succ d ih =>
    intro i hi
    have hlt : i < l.length := by omega
    refine Ev.step (fun k => by rw [thwartlaw05_to.l0]) ?_
    refine ev_if_pos (by rw [List.length_map]; omega) ?_
    refine ev_if_pos (by omega) ?_
    refine ev_if_pos (by simp; omega) ?_
    simp only [rd_ES l i hlt]
    rw [wrap64_in (by omega) (by omega)]
    have := ih (i + 1) (by omega)
    rw [List.take_succ_eq_append_getElem hlt, List.map_append] at this
    exact this
theorem ev_to (l : List Ent) (hn : l.length ≤ 1000000000000) : Ev (fun k => thwartlaw05_to.f k (l.map ES)) (l.map EF) := by
  unfold thwartlaw05_to.f
  exact ev_to_l l hn l.length 0 (by omega)
theorem same_ent (a b : Ent) : (!((((EF a).f0).toList) == (((EF b).f0).toList)) || (!(((EF a).f1) == ((EF b).f1)) || (!(((EF a).f2) == ((EF b).f2)) || (!(((EF a).f3) == ((EF b).f3)) || (!(((EF a).f4) == ((EF b).f4))))))) = !decide (a = b) := by
  obtain ⟨a1, a2, a3, a4, a5⟩ := a
  obtain ⟨b1, b2, b3, b4, b5⟩ := b
  simp only [EF, toList_L, L_B]
  rw [Bool.eq_iff_iff]
  simp only [Ent.mk.injEq, Bool.or_eq_true, Bool.not_eq_true', beq_eq_false_iff_ne, decide_eq_false_iff_not, ne_eq, Int.natCast_inj]
  constructor
  · rintro (h | h | h | h | h) ⟨e1, e2, e3, e4, e5⟩
    · exact h e1
    · exact h e2
    · exact h e3
    · exact h e4
    · exact h e5
  · intro h
    by_cases h1 : a1 = b1
    · by_cases h2 : a2 = b2
      · by_cases h3 : a3 = b3
        · by_cases h4 : a4 = b4
          · exact .inr (.inr (.inr (.inr fun h5 => h ⟨h1, h2, h3, h4, h5⟩)))
          · exact .inr (.inr (.inr (.inl h4)))
        · exact .inr (.inr (.inl h3))
      · exact .inr (.inl h2)
    · exact .inl h1
theorem ev_same5 (us vs : List Ent) (hl : us.length = vs.length) (hn : us.length ≤ 1000000000) : ∀ d i : Nat, i + d = us.length →
    Ev (fun k => thwartref05_Same.l0 k (us.map EF) (vs.map EF) (i : Int)) (decide (us.drop i = vs.drop i)) := by
  intro d
  induction d with
  | zero =>
    intro i hi
    refine Ev.step (fun k => by rw [thwartref05_Same.l0]) ?_
    refine ev_if_neg (by simp; omega) ?_
    rw [List.drop_eq_nil_of_le (by omega), List.drop_eq_nil_of_le (by omega)]
    exact ev_some fun k => by simp
  | succ d ih =>
    intro i hi
    have h1 : i < us.length := by omega
    have h2 : i < vs.length := by omega
    refine Ev.step (fun k => by rw [thwartref05_Same.l0]) ?_
    refine ev_if_pos (by simp; omega) ?_
    refine ev_if_pos (by omega) ?_
    refine ev_if_pos (by simp; omega) ?_
    simp only [rd_EF us i h1, rd_EF vs i h2, same_ent]
    rw [drop_at us i h1, drop_at vs i h2]
    by_cases he : us[i] = vs[i]
    · refine ev_if_neg (by simp [he]) ?_
      rw [wrap64_in (by omega) (by omega), he]
      have := ih (i + 1) (by omega)
      simp only [List.cons.injEq, true_and]
      exact this
    · refine ev_if_pos (by simp [he]) ?_
      exact ev_some fun k => by rw [decide_eq_false (fun h => he (List.cons.inj h).1)]
theorem ev_Same5 (us vs : List Ent) (hn : us.length ≤ 1000000000) : Ev (fun k => thwartref05_Same.f k (us.map EF) (vs.map EF)) (decide (us = vs)) := by
  unfold thwartref05_Same.f
  by_cases hl : us.length = vs.length
  · refine ev_if_pos (by simp [hl]) ?_
    have := ev_same5 us vs hl hn us.length 0 (by omega)
    simpa using this
  · refine ev_if_neg (by simp; omega) ?_
    refine ev_some fun k => ?_
    rw [decide_eq_false (fun h => hl (by rw [h]))]
theorem ev_awake05 : Ev (fun k => thwartlaw05_awake.f k) true := Ev.of (fun k => thwartlaw05_awake.mono k) (k := 20) (by decide +kernel)
end Go.Proofs.Ytdjkkceamldmjaa.Thw
/-! ## Layer 5 (hint): Of and At, the code's and the document's, in the plain words of Plain05O. -/
namespace Go.Proofs.Ytdjkkceamldmjaa.Thw
open Go Go.RowKit Go.Proofs.Ytdjkkceamldmjaa.Print Go.Proofs.YtdjkkceamldmjaaW.PrintWords Go.Proofs.YtdjkkceamldmjaaW.PrintLast Go.Proofs.YtdjkkceamldmjaaW.PrintMore
set_option linter.unusedVariables false
set_option linter.unusedSimpArgs false
def finO (acc : List Ent) (at_ : Nat) (x : List (List Rec) × Nat) : List SE × Int := ((acc ++ ofL at_ x.1).map ES, ((at_ + x.2 : Nat) : Int))
theorem ev_hOf_in (b : ByteArray) (acc : List Ent) (l : List Rec) (at_ n : Nat) (hl : (allS l).2 = 0) (hn : (allS l).1.length ≤ n) (h16 : l.length ≤ 16) (hat : at_ + n ≤ 1000000) (ha : acc.length ≤ 16000000) (r : List SE × Int)
    (hnext : Ev (fun k => hint_Of.l0 k b ((acc ++ batchE (at_ + n - (allS l).1.length) l).map ES) ((at_ + n : Nat) : Int)) r) :
    ∀ j, j ≤ l.length → Ev (fun k => hint_Of.l1 k b (acc.map ES) (at_ : Int) (l.map RS) (n : Int) ((at_ + n - (allS (l.drop j)).1.length : Nat) : Int) (List.replicate j z39 ++ (batchE (at_ + n - (allS (l.drop j)).1.length) (l.drop j)).map ES) ((j : Int) - 1)) r := by
  intro j
  induction j with
  | zero =>
    intro hj
    refine Ev.step (fun k => by rw [hint_Of.l1]) ?_
    refine ev_if_neg (by omega) ?_
    refine ev_if_pos (by rw [List.drop_zero]; simp only [List.length_append, List.length_map, List.length_replicate, batchE_length]; omega) ?_
    have e : acc.map ES ++ (List.replicate 0 z39 ++ (batchE (at_ + n - (allS (l.drop 0)).1.length) (l.drop 0)).map ES) = (acc ++ batchE (at_ + n - (allS l).1.length) l).map ES := by
      rw [List.drop_zero, List.map_append]; rfl
    rw [e, wrap64_in (by omega) (by omega), show (at_ : Int) + (n : Int) = ((at_ + n : Nat) : Int) by omega]
    exact hnext
  | succ j ih =>
    intro hj
    have hlt : j < l.length := by omega
    refine Ev.step (fun k => by rw [hint_Of.l1]) ?_
    rw [show (((j + 1 : Nat) : Int) - 1) = (j : Int) by omega]
    refine ev_if_pos (by omega) ?_
    refine ev_if_pos (by omega) ?_
    refine ev_if_pos (by rw [List.length_map]; omega) ?_
    rw [rd_RS l j hlt]
    refine Ev.bind (ev_Bytes l[j]) ?_
    obtain ⟨k1, k2⟩ := allS_step l j hlt hl
    have k3 := (allS_drop l j hl).2
    have hb : bytesS l[j] = (recS l[j], 0) := by unfold bytesS; rw [if_pos k1]
    rw [hb]
    refine ev_if_pos (by simp only [List.length_append, List.length_map, List.length_replicate, batchE_length]; omega) ?_
    have hrl := recS_length k1
    rw [k2, List.length_append] at k3
    have hw : wrap64 (((at_ + n - (allS (l.drop (j + 1))).1.length : Nat) : Int) - ((B (recS l[j])).size : Int)) = ((at_ + n - (allS (l.drop j)).1.length : Nat) : Int) := by
      rw [B_size, k2, List.length_append, wrap64_in (by omega) (by omega)]; omega
    simp only [hw]
    have hs : (List.replicate (j + 1) z39 ++ (batchE (at_ + n - (allS (l.drop (j + 1))).1.length) (l.drop (j + 1))).map ES).set ((j : Int)).toNat (⟨(RS l[j]).f1, ((at_ + n - (allS (l.drop j)).1.length : Nat) : Int), ((B (recS l[j])).size : Int), (RS l[j]).f0, (RS l[j]).f3⟩ : SE)
        = List.replicate j z39 ++ (batchE (at_ + n - (allS (l.drop j)).1.length) (l.drop j)).map ES := by
      rw [batchE_step l j _ hlt, List.map_cons, Int.toNat_natCast, List.replicate_succ', List.append_assoc, List.set_append, List.length_replicate, if_neg (by omega), Nat.sub_self, B_size]
      have e2 : at_ + n - (allS (l.drop j)).1.length + (recS l[j]).length = at_ + n - (allS (l.drop (j + 1))).1.length := by rw [k2, List.length_append]; omega
      rw [e2]
      rfl
    rw [hs, wrap64_in (by omega) (by omega)]
    exact ih (by omega)
theorem ev_hOf_l (b : ByteArray) (hb : b.size ≤ 1000000) : ∀ (f at_ : Nat) (acc : List Ent), (L b).length ≤ at_ + f → at_ ≤ (L b).length → acc.length ≤ 16 * at_ →
    Ev (fun k => hint_Of.l0 k b (acc.map ES) (at_ : Int)) (finO acc at_ (scanR f ((L b).drop at_))) := by
  have hl := L_length b
  intro f
  induction f with
  | zero =>
    intro at_ acc h1 h2 h3
    refine Ev.step (fun k => by rw [hint_Of.l0]) ?_
    refine ev_if_pos (by omega) ?_
    refine ev_if_pos (by omega) ?_
    simp only [Int.toNat_natCast, extract_end]
    rw [List.drop_eq_nil_of_le (by omega)]
    refine Ev.bind (ev_frameTake _ (by decide)) ?_
    rw [L_B]
    refine ev_if_neg (by decide +kernel) ?_
    exact ev_some fun k => by simp [finO, scanR, ofL]
  | succ f ih =>
    intro at_ acc h1 h2 h3
    refine Ev.step (fun k => by rw [hint_Of.l0]) ?_
    refine ev_if_pos (by omega) ?_
    refine ev_if_pos (by omega) ?_
    simp only [Int.toNat_natCast, extract_end]
    refine Ev.bind (ev_frameTake _ (by rw [B_size]; simp; omega)) ?_
    rw [L_B, scanR]
    obtain ⟨t1, t2, t3, t4⟩ := takeF_range ((L b).drop at_)
    rw [List.length_drop] at t2
    by_cases h : (takeF ((L b).drop at_)).2.2 = 0
    · rw [if_pos h]
      refine ev_if_pos h ?_
      have t3 := t3 h
      obtain ⟨q1, q2⟩ := takeF_len h
      obtain ⟨f1, f2, f3⟩ := frameS_ok q2
      have q3 := frameS_all_le q2
      generalize hT : takeF ((L b).drop at_) = T at *
      obtain ⟨l, n, e⟩ := T
      simp only [] at t1 t2 t3 t4 h q1 q2 q3 f2 f3
      obtain ⟨m, rfl⟩ : ∃ m : Nat, n = (m : Int) := ⟨n.toNat, by omega⟩
      refine ev_if_pos (by show (0 : Int) ≤ ((l.map RS).length : Int); omega) ?_
      refine ev_if_pos (by show (((l.map RS).length : Int)).toNat ≤ 5864062014805; rw [List.length_map]; omega) ?_
      show Ev (fun k => hint_Of.l1 k b (acc.map ES) (at_ : Int) (l.map RS) (m : Int) (wrap64 ((at_ : Int) + (m : Int))) (List.replicate (((l.map RS).length : Int)).toNat z39) (wrap64 (((l.map RS).length : Int) - 1))) _
      rw [List.length_map]
      have hnext := ih (at_ + m) (acc ++ batchE (at_ + m - (allS l).1.length) l) (by omega) (by omega) (by rw [List.length_append, batchE_length]; omega)
      have hin := ev_hOf_in b acc l at_ m f2 (by omega) t4 (by omega) (by omega) _ hnext l.length (Nat.le_refl _)
      rw [List.drop_length] at hin
      have e0 : at_ + m - (allS ([] : List Rec)).1.length = at_ + m := rfl
      rw [e0] at hin
      rw [wrap64_in (by omega) (by omega), wrap64_in (by omega) (by omega), show (at_ : Int) + (m : Int) = ((at_ + m : Nat) : Int) by omega, Int.toNat_natCast]
      have e1 : List.replicate l.length z39 ++ (batchE (at_ + m) []).map ES = List.replicate l.length z39 := by simp [batchE]
      rw [e1] at hin
      refine cast (congrArg (Ev _) ?_) hin
      rw [← List.drop_drop]
      unfold finO
      simp only [Int.toNat_natCast, ofL, List.append_assoc, Nat.add_assoc]
      have e2 : (frameS l).1.length = m := by omega
      rw [e2]
    · rw [if_neg h]
      refine ev_if_neg h ?_
      exact ev_some fun k => by simp [finO, ofL]
def ofS (b : Bs) : List Ent × Nat := (ofL 0 (scanS b).1, (scanS b).2)
theorem ev_hOf (b : ByteArray) (hb : b.size ≤ 1000000) : Ev (fun k => hint_Of.f k b) ((ofS (L b)).1.map ES, ((ofS (L b)).2 : Int)) := by
  unfold hint_Of.f
  have := ev_hOf_l b hb (L b).length 0 [] (by omega) (by omega) (by simp)
  refine cast (congrArg (Ev _) ?_) this
  simp [finO, ofS, scanS]
/-! ### the document's Of -/
theorem ev_dOf_in (ls : List (List Rec)) (x6 : Int) (at_ i : Nat) (s : ByteArray) (hi : i < ls.length) (hin : ls.length ≤ 1000000) (hok : (allS ls[i]).2 = 0) (h16 : ls[i].length ≤ 16) (r : List SF × Int) (A : List Ent)
    (hnext : Ev (fun k => thwartref05_Of.l0 k (A.map EF) (RSS ls) x6 (wrap64 ((at_ : Int) + (s.size : Int))) (wrap64 ((i : Int) + 1))) r) :
    ∀ (d j : Nat) (acc : List Ent) (off : Nat), j + d = ls[i].length → acc.length + d ≤ 20000000 → off + 380 * d ≤ 2000000 → acc ++ batchE off (ls[i].drop j) = A →
    Ev (fun k => thwartref05_Of.l1 k (acc.map EF) (RSS ls) x6 (at_ : Int) (i : Int) s (off : Int) (j : Int)) r := by
  have hrl : (RSS ls).length = ls.length := List.length_map _
  intro d
  induction d with
  | zero =>
    intro j acc off hj ha ho hA
    refine Ev.step (fun k => by rw [thwartref05_Of.l1]) ?_
    refine ev_if_pos (by omega) ?_
    refine ev_if_pos (by omega) ?_
    rw [rd_RSS ls i hi]
    refine ev_if_neg (by rw [List.length_map]; omega) ?_
    rw [List.drop_of_length_le (by omega)] at hA
    simp only [batchE, List.append_nil] at hA
    rw [hA]
    exact hnext
  | succ d ih =>
    intro j acc off hj ha ho hA
    have hlt : j < ls[i].length := by omega
    refine Ev.step (fun k => by rw [thwartref05_Of.l1]) ?_
    refine ev_if_pos (by omega) ?_
    refine ev_if_pos (by omega) ?_
    rw [rd_RSS ls i hi]
    refine ev_if_pos (by rw [List.length_map]; omega) ?_
    refine ev_if_pos (by omega) ?_
    rw [rd_RS ls[i] j hlt]
    refine Ev.bind (ev_rBytes ls[i][j]) ?_
    obtain ⟨k1, k2⟩ := allS_step ls[i] j hlt hok
    have hb : bytesS ls[i][j] = (recS ls[i][j], 0) := by unfold bytesS; rw [if_pos k1]
    have hrl2 := recS_length k1
    rw [hb]
    refine ev_if_pos (by rw [List.length_map]; omega) ?_
    rw [wrap64_in (n := (off : Int) + _) (by simp only [B_size]; omega) (by simp only [B_size]; omega), wrap64_in (n := (j : Int) + 1) (by omega) (by omega)]
    rw [batchE_step ls[i] j _ hlt] at hA
    have := ih (j + 1) (acc ++ [⟨ls[i][j].key, (off : Int), ((recS ls[i][j]).length : Int), ls[i][j].seq, ls[i][j].gone⟩]) (off + (recS ls[i][j]).length) (by omega) (by simp; omega) (by omega) (by rw [List.append_assoc]; exact hA)
    rw [List.map_append] at this
    refine cast (congrArg (fun g => Ev g r) ?_) this
    funext k
    rw [B_size, show ((off + (recS ls[i][j]).length : Nat) : Int) = (off : Int) + ((recS ls[i][j]).length : Int) by omega, show ((j + 1 : Nat) : Int) = (j : Int) + 1 by omega]
    rfl
theorem ev_dOf_l (ls : List (List Rec)) (x6 : Int) (hin : ls.length ≤ 1000000) (hok : ∀ l ∈ ls, (frameS l).2 = 0) (hsz : (framesS ls).length ≤ 1000000) : ∀ (d i : Nat) (acc : List Ent), i + d = ls.length → acc.length ≤ 16 * i →
    Ev (fun k => thwartref05_Of.l0 k (acc.map EF) (RSS ls) x6 ((cat ls i).length : Int) (i : Int)) ((acc ++ ofL (cat ls i).length (ls.drop i)).map EF, x6) := by
  have hrl : (RSS ls).length = ls.length := List.length_map _
  intro d
  induction d with
  | zero =>
    intro i acc hi ha
    refine Ev.step (fun k => by rw [thwartref05_Of.l0]) ?_
    refine ev_if_neg (by omega) ?_
    rw [List.drop_of_length_le (by omega)]
    exact ev_some fun k => by simp [ofL]
  | succ d ih =>
    intro i acc hi ha
    have hlt : i < ls.length := by omega
    have hf := hok ls[i] (List.getElem_mem _)
    obtain ⟨f1, f2, f3⟩ := frameS_ok hf
    have h16 := (fits_facts f1).2
    have hle := frameS_all_le hf
    have hcs := cat_succ ls i hlt
    have hcl : (cat ls (i + 1)).length ≤ (framesS ls).length := by rw [cat_split ls (i + 1), List.length_append]; omega
    have hcl2 : (cat ls (i + 1)).length = (cat ls i).length + (frameS ls[i]).1.length := by rw [hcs, List.length_append]
    have u1 : ls[i].length ≤ 1000000000 := by omega
    have u2 : acc.length + ls[i].length ≤ 20000000 := by omega
    have u3 : (cat ls i).length + (frameS ls[i]).1.length - (allS ls[i]).1.length + 380 * ls[i].length ≤ 2000000 := by omega
    refine Ev.step (fun k => by rw [thwartref05_Of.l0]) ?_
    refine ev_if_pos (by omega) ?_
    refine ev_if_pos (by omega) ?_
    rw [rd_RSS ls i hlt]
    refine Ev.bind (ev_rframeBytes ls[i]) ?_
    refine Ev.bind (ev_rAll ls[i] u1) ?_
    have hw : wrap64 (wrap64 (((cat ls i).length : Int) + ((B (frameS ls[i]).1).size : Int)) - ((B (allS ls[i]).1).size : Int)) = (((cat ls i).length + (frameS ls[i]).1.length - (allS ls[i]).1.length : Nat) : Int) := by
      rw [B_size, B_size, wrap64_in (n := ((cat ls i).length : Int) + _) (by omega) (by omega), wrap64_in (by omega) (by omega)]; omega
    simp only [hw]
    have := ih (i + 1) (acc ++ batchE ((cat ls i).length + (frameS ls[i]).1.length - (allS ls[i]).1.length) ls[i]) (by omega) (by rw [List.length_append, batchE_length]; omega)
    have e1 : wrap64 (((cat ls i).length : Int) + ((B (frameS ls[i]).1).size : Int)) = ((cat ls (i + 1)).length : Int) := by rw [B_size, wrap64_in (by omega) (by omega)]; omega
    have e2 : wrap64 ((i : Int) + 1) = ((i + 1 : Nat) : Int) := by rw [wrap64_in (by omega) (by omega)]; omega
    have e3 : (acc ++ ofL (cat ls i).length (ls.drop i)) = acc ++ batchE ((cat ls i).length + (frameS ls[i]).1.length - (allS ls[i]).1.length) ls[i] ++ ofL (cat ls (i + 1)).length (ls.drop (i + 1)) := by
      rw [List.drop_eq_getElem_cons hlt, ofL, hcl2, List.append_assoc]
    rw [e3]
    exact ev_dOf_in ls x6 (cat ls i).length i (B (frameS ls[i]).1) hlt hin f2 h16 _ (acc ++ batchE ((cat ls i).length + (frameS ls[i]).1.length - (allS ls[i]).1.length) ls[i]) (by rw [e1, e2]; exact this) ls[i].length 0 acc _ (Nat.zero_add _) u2 u3 (by rw [List.drop_zero])
theorem ev_dOf (b : ByteArray) (hb : b.size ≤ 1000000) : Ev (fun k => thwartref05_Of.f k b) ((ofS (L b)).1.map EF, ((ofS (L b)).2 : Int)) := by
  have hl := L_length b
  unfold thwartref05_Of.f
  refine Ev.bind (ev_rScan b (by omega)) ?_
  obtain ⟨k1, k2, k3⟩ := scanR_len (L b).length (L b)
  have hsz := scanR_size (L b).length (L b)
  have hok := scanR_ok (L b).length (L b)
  have e : scanR (L b).length (L b) = scanS (L b) := rfl
  unfold SC ofS
  rw [e] at k1 k2 k3 hsz hok
  generalize scanS (L b) = X at k1 k2 k3 hsz hok ⊢
  obtain ⟨ls, n⟩ := X
  simp only [] at k1 k2 k3 hsz hok ⊢
  have := ev_dOf_l ls (n : Int) (by omega) hok (by omega) ls.length 0 [] (by omega) (by simp)
  refine cast (congrArg (Ev _) ?_) this
  simp [cat, framesS]
/-! ### At -/
def AT (x : Rec × Int) : Int × ByteArray × ByteArray × Bool × Int := ((x.1.seq : Int), B x.1.key, B x.1.val, x.1.gone, x.2)
theorem extract_cut (b : ByteArray) (o n : Nat) : b.extract o (o + n) = B (((L b).drop o).take n) := L_inj (by rw [L_extract, L_B]; congr 1; omega)
theorem ev_hAt (b : ByteArray) (e : Ent) (hb : b.size ≤ 1000000) : Ev (fun k => hint_At.f k b (B e.key) e.off e.len (e.seq : Int) e.gone) (AT (atE (L b) e)) := by
  have hl := L_length b
  unfold hint_At.f
  refine ev_bind_now (right_E e) ?_
  have no : ∀ x, AT x = (0, ⟨#[]⟩, ⟨#[]⟩, false, 1) → Ev (fun k => hint_At.j0 k b true (B e.key) e.off e.len (e.seq : Int) e.gone) (AT x) := by
    intro x hx
    rw [hx]
    exact Ev.step (fun k => by rw [hint_At.j0]) (ev_bt (Ev.now _))
  cases hr : rightE e with
  | false =>
    refine ev_bf (no _ ?_)
    unfold atE
    rw [if_neg (by rw [hr]; simp)]
    rfl
  | true =>
    refine ev_bt ?_
    obtain ⟨h1, h2, h3, h4, h5, h6, h7, h8⟩ := rightE_facts hr
    obtain ⟨o, ho⟩ : ∃ o : Nat, e.off = (o : Int) := ⟨e.off.toNat, by omega⟩
    obtain ⟨n, hn⟩ : ∃ n : Nat, e.len = (n : Int) := ⟨e.len.toNat, by omega⟩
    rw [ho, hn, wrap64_in (by omega) (by omega)]
    unfold atE
    rw [ho, hn]
    by_cases h : (o : Int) + (n : Int) ≤ ((L b).length : Int)
    case neg =>
      rw [if_neg (fun hh => h hh.2), decide_eq_true (by omega)]
      have := no (rec0, 1) rfl
      rw [ho, hn] at this
      exact this
    rw [if_pos ⟨hr, h⟩, decide_eq_false (by omega)]
    refine Ev.step (fun k => by rw [hint_At.j0]) ?_
    refine ev_bf ?_
    refine ev_if_pos (by omega) ?_
    rw [wrap64_in (by omega) (by omega)]
    refine ev_if_pos (by omega) ?_
    refine ev_if_pos (by omega) ?_
    rw [show ((o : Int) + (n : Int)).toNat = o + n by omega, Int.toNat_natCast, Int.toNat_natCast, extract_cut]
    refine Ev.bind (ev_Read _ (by rw [B_size, List.length_take, List.length_drop]; omega)) ?_
    rw [L_B]
    generalize readS (((L b).drop o).take n) = x
    obtain ⟨r, rest, er⟩ := x
    simp only [RD]
    unfold atX
    simp only []
    by_cases c1 : er = 0
    case neg =>
      refine ev_if_neg c1 ?_
      rw [if_neg (fun hh => c1 hh.1)]
      exact Ev.now _
    refine ev_if_pos c1 ?_
    have hiso : ((B rest).toList = ([] : List UInt8)) ↔ rest = [] := by rw [toList_L, L_B]
    by_cases c2 : rest = []
    case neg =>
      refine ev_if_neg (fun hh => c2 (hiso.1 hh)) ?_
      rw [if_neg (fun hh => c2 hh.2.1)]
      exact Ev.now _
    refine ev_if_pos (hiso.2 c2) ?_
    have hk : ((B e.key).toList == (B r.key).toList) = decide (e.key = r.key) := by rw [toList_L, L_B, toList_L, L_B, Bool.eq_iff_iff]; simp
    have hq : (((e.seq : Int)) == ((r.seq : Int))) = decide (e.seq = r.seq) := by rw [Bool.eq_iff_iff]; simp; omega
    have hg : (e.gone == r.gone) = decide (e.gone = r.gone) := by rw [Bool.eq_iff_iff]; simp
    have hall : (!((B e.key).toList == (B r.key).toList) || (!((e.seq : Int) == (r.seq : Int)) || (!(e.gone == r.gone)))) = (!decide (e.key = r.key) || (!decide (e.seq = r.seq) || !decide (e.gone = r.gone))) := by rw [hk, hq, hg]
    by_cases c3 : e.key = r.key ∧ e.seq = r.seq ∧ e.gone = r.gone
    · rw [if_pos ⟨c1, c2, c3⟩]
      refine ev_if_neg (fun hh => by have hh := hall.symm.trans hh; simp [c3.1, c3.2.1, c3.2.2] at hh) ?_
      exact Ev.now _
    · rw [if_neg (fun hh => c3 hh.2.2)]
      refine ev_if_pos (hall.trans ?_) (Ev.now _)
      by_cases d1 : e.key = r.key
      · by_cases d2 : e.seq = r.seq
        · have d3 : ¬ e.gone = r.gone := fun d3 => c3 ⟨d1, d2, d3⟩
          simp [d3]
        · simp [d2]
      · simp [d1]
theorem ev_dAt (b : ByteArray) (e : Ent) (hb : b.size ≤ 1000000) : Ev (fun k => thwartref05_At.f k b (B e.key) e.off e.len (e.seq : Int) e.gone) (AT (atE (L b) e)) := by
  have hl := L_length b
  unfold thwartref05_At.f
  refine ev_bind_now (rright_E e) ?_
  have no : ∀ x, AT x = (0, ⟨#[]⟩, ⟨#[]⟩, false, 1) → Ev (fun k => thwartref05_At.j0 k b true (B e.key) e.off e.len (e.seq : Int) e.gone) (AT x) := by
    intro x hx
    rw [hx]
    exact Ev.step (fun k => by rw [thwartref05_At.j0]) (ev_bt (Ev.now _))
  cases hr : rightE e with
  | false =>
    refine ev_bf (no _ ?_)
    unfold atE
    rw [if_neg (by rw [hr]; simp)]
    rfl
  | true =>
    refine ev_bt ?_
    obtain ⟨h1, h2, h3, h4, h5, h6, h7, h8⟩ := rightE_facts hr
    obtain ⟨o, ho⟩ : ∃ o : Nat, e.off = (o : Int) := ⟨e.off.toNat, by omega⟩
    obtain ⟨n, hn⟩ : ∃ n : Nat, e.len = (n : Int) := ⟨e.len.toNat, by omega⟩
    rw [ho, hn, wrap64_in (by omega) (by omega)]
    unfold atE
    rw [ho, hn]
    by_cases h : (o : Int) + (n : Int) ≤ ((L b).length : Int)
    case neg =>
      rw [if_neg (fun hh => h hh.2), decide_eq_true (by omega)]
      have := no (rec0, 1) rfl
      rw [ho, hn] at this
      exact this
    rw [if_pos ⟨hr, h⟩, decide_eq_false (by omega)]
    refine Ev.step (fun k => by rw [thwartref05_At.j0]) ?_
    refine ev_bf ?_
    refine ev_if_pos (by omega) ?_
    rw [wrap64_in (by omega) (by omega)]
    refine ev_if_pos (by omega) ?_
    refine ev_if_pos (by omega) ?_
    rw [show ((o : Int) + (n : Int)).toNat = o + n by omega, Int.toNat_natCast, Int.toNat_natCast, extract_cut]
    refine Ev.bind (ev_rRead _ (by rw [B_size, List.length_take, List.length_drop]; omega)) ?_
    rw [L_B]
    generalize readS (((L b).drop o).take n) = x
    obtain ⟨r, rest, er⟩ := x
    simp only [RD]
    unfold atX
    simp only []
    by_cases c1 : er = 0
    case neg =>
      refine ev_if_neg c1 ?_
      rw [if_neg (fun hh => c1 hh.1)]
      exact Ev.now _
    refine ev_if_pos c1 ?_
    have hiso : ((B rest).toList = ([] : List UInt8)) ↔ rest = [] := by rw [toList_L, L_B]
    by_cases c2 : rest = []
    case neg =>
      refine ev_if_neg (fun hh => c2 (hiso.1 hh)) ?_
      rw [if_neg (fun hh => c2 hh.2.1)]
      exact Ev.now _
    refine ev_if_pos (hiso.2 c2) ?_
    have hk : ((B r.key).toList = (B e.key).toList) ↔ e.key = r.key := by rw [toList_L, L_B, toList_L, L_B]; exact eq_comm
    by_cases d1 : e.key = r.key
    case neg =>
      refine ev_if_neg (fun hh => d1 (hk.1 hh)) ?_
      rw [if_neg (fun hh => d1 hh.2.2.1)]
      exact Ev.now _
    refine ev_if_pos (hk.2 d1) ?_
    by_cases d2 : e.seq = r.seq
    case neg =>
      refine ev_if_neg (by omega) ?_
      rw [if_neg (fun hh => d2 hh.2.2.2.1)]
      exact Ev.now _
    refine ev_if_pos (by omega) ?_
    by_cases d3 : e.gone = r.gone
    case neg =>
      refine ev_if_pos (by simp; exact fun hh => d3 hh.symm) ?_
      rw [if_neg (fun hh => d3 hh.2.2.2.2)]
      exact Ev.now _
    refine ev_if_neg (by simp [d3]) ?_
    rw [if_pos ⟨c1, c2, d1, d2, d3⟩]
    exact Ev.now _
end Go.Proofs.Ytdjkkceamldmjaa.Thw
/-! ## Layer 5: the statements HintTells and HintEach. -/
namespace Go.Proofs.Ytdjkkceamldmjaa.Thw
open Go Go.RowKit Go.Proofs.Ytdjkkceamldmjaa.Print Go.Proofs.YtdjkkceamldmjaaW.PrintWords Go.Proofs.YtdjkkceamldmjaaW.PrintLast Go.Proofs.YtdjkkceamldmjaaW.PrintMore
set_option linter.unusedVariables false
set_option linter.unusedSimpArgs false
theorem ofS_length (b : Bs) : (ofS b).1.length ≤ 16 * b.length := by
  unfold ofS
  rw [ofL_length]
  obtain ⟨k1, k2, k3⟩ := scanR_len b.length b
  have e : scanR b.length b = scanS b := rfl
  rw [e] at k1 k2 k3
  have : ∀ (ls : List (List Rec)), (∀ l ∈ ls, l.length ≤ 16) → ls.flatten.length ≤ 16 * ls.length := by
    intro ls
    induction ls with
    | nil => intro _; simp
    | cons l ls ih =>
      intro h
      have := h l (by simp)
      have := ih (fun x hx => h x (by simp [hx]))
      rw [List.flatten_cons, List.length_append, List.length_cons]
      omega
  have := this _ k3
  show (scanS b).1.flatten.length ≤ _
  omega
theorem pureHintTells : thwartlaw05_HintTells.Pure := by
  intro b x h1 h2
  obtain ⟨g1, g2, g3, g4, _⟩ := h2
  obtain ⟨e, rfl⟩ := unES x (wf_u64 g4).1
  apply Ev.rounds
  unfold thwartlaw05_HintTells.f
  refine Ev.bind ev_awake05 ?_
  have stop : Ev (fun k => thwartlaw05_HintTells.j0 k b true true (ES e).f0 (ES e).f1 (ES e).f2 (ES e).f3 (ES e).f4) true :=
    Ev.step (fun k => by rw [thwartlaw05_HintTells.j0]) (ev_if_pos rfl (Ev.now _))
  by_cases hb : (b.size : Int) > 4000
  · exact ev_if_pos hb stop
  refine ev_if_neg hb ?_
  by_cases hk : ((ES e).f0.size : Int) > 100
  · rw [decide_eq_true hk]; exact stop
  rw [decide_eq_false hk]
  refine Ev.step (fun k => by rw [thwartlaw05_HintTells.j0]) ?_
  refine ev_bf ?_
  have hlb := L_length b
  have hol := ofS_length (L b)
  refine Ev.bind (ev_hOf b (by omega)) ?_
  refine Ev.bind (ev_dOf b (by omega)) ?_
  refine Ev.bind (ev_hAt b e (by omega)) ?_
  refine Ev.bind (ev_dAt b e (by omega)) ?_
  refine Ev.bind (ev_to (ofS (L b)).1 (by omega)) ?_
  refine Ev.bind (ev_Same5 (ofS (L b)).1 (ofS (L b)).1 (by omega)) ?_
  refine ev_if_pos rfl ?_
  refine ev_if_pos (by simp) ?_
  refine ev_if_pos rfl ?_
  refine ev_if_pos (by simp) ?_
  exact ev_some fun k => by rw [beq_self_eq_true]
/-! ### HintEach -/
end Go.Proofs.Ytdjkkceamldmjaa.Thw
