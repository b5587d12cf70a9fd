/- Several texts of mine in one (Ev01rI, Ev12k, Ev12l). -/
import Derived.Test.YtlnbekaldemebaaGreatDoorPrint13
import Derived.Test.YtlnbekaldemebaaGreatDoorPrint15
import Derived.Test.YtlnbekaldemebaaGreatDoorME3
import Derived.Test.YtlnbekaldemebaaGreatDoorMX3
import Derived.Test.YtlnbekaldemebaaGreatDoorPrint14
import Derived.Test.YtlnbekaldemebaaGreatDoorPrint16
/-! ## Layer 1, the references: they come to the same plain words. -/
namespace Go.Proofs.YtlnbekaldemebaaGreatDoor.Thw
open Go Go.RowKit Go.Proofs.YtlnbekaldemebaaGreatDoor.Print Go.Proofs.YtlnbekaldemebaaGreatDoorW.PrintWords Go.Proofs.YtlnbekaldemebaaGreatDoorW.PrintLast Go.Proofs.YtlnbekaldemebaaGreatDoorW.PrintMore
set_option linter.unusedVariables false
set_option linter.unusedSimpArgs false

theorem ev_rPut : ∀ (j n : Nat), n < 128 ^ (j + 1) → n < 18446744073709551616 → Ev (fun k => thwartref01_Put.f k (n : Int)) (B (putB j n))
 | j, n, hn, hm => by
  by_cases h : n < 128
  ·refine Ev.step (f := fun k => some (strOfNums [((n : Int)) % 256])) (fun k => ?_) ?_
   ·simp only [thwartref01_Put.f]
    rw [if_pos (by omega)]
   ·refine ev_some fun k => ?_
    congr 1
    apply L_inj
    rw [L_B, L_strOfNums]
    have e : ((n : Int) % 256).toNat = n := by omega
    cases j <;> simp [putB, h, e]
  ·cases j with
   | zero => exact absurd hn (by omega)
   | succ j =>
    have ed : IntKind.u64.wrap (Int.tdiv (n : Int) 128) = ((n / 128 : Nat) : Int) := by rw [Int.tdiv_eq_ediv_of_nonneg (by omega), u64_in (by omega) (by omega)]; omega
    have em : (IntKind.u64.wrap (128 + Int.tmod (n : Int) 128)) % 256 = ((n % 128 + 128 : Nat) : Int) := by rw [Int.tmod_eq_emod_of_nonneg (by omega), u64_in (by omega) (by omega)]; omega
    refine Ev.step (f := fun k => ((some (([((n % 128 + 128 : Nat) : Int)] : List Int) : List Int)).bind fun y133 => ((thwartref01_Put.f k ((n / 128 : Nat) : Int)).bind fun t136 => (if (strOfNums y133).size + t136.size ≤ 9223372036854775807 then (some ((strOfNums y133) ++ t136)) else (none))))) (fun k => ?_) ?_
    ·simp only [thwartref01_Put.f]
     rw [if_neg (by omega), em, ed]
    ·refine ev_bind_now rfl ?_
     refine Ev.bind (ev_rPut j (n / 128) ?_ (by omega)) ?_
     ·rw [Nat.pow_succ] at hn
      exact (Nat.div_lt_iff_lt_mul (by omega)).2 hn
     ·have hl := putB_length j (n / 128)
      have hj : j ≤ 9223372036854775000 ∨ 9223372036854775000 < j := by omega
      have hs : (strOfNums [((n % 128 + 128 : Nat) : Int)]) = B [UInt8.ofNat (n % 128 + 128)] := L_inj (by rw [L_strOfNums, L_B, List.map_singleton, Int.toNat_natCast])
      rw [hs]
      simp only [B_size, List.length_singleton]
      have hlen : (putB j (n / 128)).length ≤ n / 128 + 1 := putB_len_le j (n / 128)
      refine ev_if_pos (by omega) ?_
      refine ev_some fun k => ?_
      rw [← B_append, putB, if_neg h]
      rfl
theorem ev_rPutS (n : Nat) (h : n < 18446744073709551616) : Ev (fun k => thwartref01_Put.f k (n : Int)) (B (putS n)) :=
 ev_rPut 9 n (Nat.lt_of_lt_of_le h (by decide)) h
theorem rgather (acc i c : Nat) (hc : c < 256) :
  IntKind.u64.wrap ((acc : Int) + IntKind.u64.wrap (((128 ^ i % 18446744073709551616 : Nat) : Int) * IntKind.u64.wrap (Int.tmod (c : Int) 128))) = (((acc + c % 128 * 128 ^ i) % 18446744073709551616 : Nat) : Int) := by
 rw [Int.tmod_eq_emod_of_nonneg (by omega), show ((c : Int) % 128) = ((c % 128 : Nat) : Int) by omega, u64_in (n := ((c % 128 : Nat) : Int)) (by omega) (by omega), mul_u64, IntKind.wrap_u64]
 have e : 128 ^ i % 18446744073709551616 * (c % 128) % 18446744073709551616 = c % 128 * 128 ^ i % 18446744073709551616 := by rw [Nat.mod_mul_mod, Nat.mul_comm]
 rw [e]
 generalize c % 128 * 128 ^ i = X
 omega
theorem ev_rtake (b : ByteArray) (hb : b.size ≤ 4611686018427387904) : ∀ (f i acc : Nat), i + f = 10 → i ≤ (L b).length →
  Ev (fun k => thwartref01_Take.l0 k b (acc : Int) ((128 ^ i % 18446744073709551616 : Nat) : Int) (i : Int)) (TK (takeR (L b) f i acc))
 | 0, i, acc, e, h => by
  refine Ev.step (f := fun k => some (TK (0, [], 2))) (fun k => ?_) (Ev.now _)
  simp only [thwartref01_Take.l0]
  rw [if_neg (by omega)]
  rfl
 | f + 1, i, acc, e, h => by
  have hl := L_length b
  rw [takeR]
  by_cases h1 : i = (L b).length
  ·rw [if_pos h1]
   refine Ev.step (f := fun k => some (TK (0, [], 3))) (fun k => ?_) (Ev.now _)
   simp only [thwartref01_Take.l0]
   rw [if_pos (by omega), if_pos (by omega)]
   rfl
  rw [if_neg h1]
  have hi : i < (L b).length := by omega
  have hg : (L b).getD i 0 = (L b)[i] := by simp [List.getD_eq_getElem?_getD, List.getElem?_eq_getElem hi]
  have hc := (L b)[i].toNat_lt
  have hga := rgather acc i (L b)[i].toNat hc
  rw [hg]
  generalize hn : (acc + (L b)[i].toNat % 128 * 128 ^ i) % 18446744073709551616 = n at hga ⊢
  have HT := Aside0.mk (show n < 18446744073709551616 by rw [← hn]; exact Nat.mod_lt _ (by omega))
  clear hn
  have HM := Aside0.mk (show IntKind.u64.wrap (((128 ^ i % 18446744073709551616 : Nat) : Int) * 128) = ((128 ^ (i + 1) % 18446744073709551616 : Nat) : Int) by
   rw [show (128 : Int) = ((128 : Nat) : Int) from rfl, mul_u64, Nat.mod_mul_mod, Nat.pow_succ])
  generalize 128 ^ i % 18446744073709551616 = m at hga HM ⊢
  have hw : wrap64 ((i : Int) + 1) = ((i + 1 : Nat) : Int) := by rw [wrap64_in (by omega) (by omega)]; omega
  by_cases h2 : 128 ≤ (L b)[i].toNat
  ·rw [if_pos h2]
   refine Ev.step (f := fun k => thwartref01_Take.l0 k b (n : Int) ((128 ^ (i + 1) % 18446744073709551616 : Nat) : Int) ((i + 1 : Nat) : Int)) (fun k => ?_) (ev_rtake b hb f (i + 1) n (by omega) (by omega))
   simp only [thwartref01_Take.l0]
   rw [if_pos (by omega), if_neg (by omega), if_pos (by omega), if_pos (by omega), bt_L b i hi, if_neg (by omega), hga, hw, HM.out]
  ·rw [if_neg h2]
   refine Ev.step (f := fun k => (thwartref01_Put.f k (n : Int)).bind fun t => (if t.toList = (L b).take (i + 1) then some (TK (n, (L b).drop (i + 1), 0)) else some (TK (0, [], 2)))) (fun k => ?_) ?_
   ·simp only [thwartref01_Take.l0]
    rw [if_pos (by omega), if_neg (by omega), if_pos (by omega), if_pos (by omega), bt_L b i hi, if_pos (by omega), hga, hw]
    simp only [if_pos (show (0 : Int) ≤ ((i + 1 : Nat) : Int) by omega), if_pos (show ((i + 1 : Nat) : Int) ≤ (b.size : Int) by omega), toList_L, Int.toNat_natCast, L_extract_front, extract_end]
    rfl
   ·refine Ev.bind (ev_rPutS n HT.out) ?_
    simp only [toList_L, L_B]
    split
    ·exact Ev.now _
    ·exact Ev.now _
theorem ev_rTake (b : ByteArray) (hb : b.size ≤ 4611686018427387904) : Ev (fun k => thwartref01_Take.f k b) (TK (takeS (L b))) :=
 ev_rtake b hb 10 0 0 rfl (Nat.zero_le _)
end Go.Proofs.YtlnbekaldemebaaGreatDoor.Thw
/-! ## Layer 12: the document's Right, Bytes, Read. -/
namespace Go.Proofs.YtlnbekaldemebaaGreatDoor.Thw
open Go Go.RowKit Go.Proofs.YtlnbekaldemebaaGreatDoor.Print Go.Proofs.YtlnbekaldemebaaGreatDoorW.PrintWords Go.Proofs.YtlnbekaldemebaaGreatDoorW.PrintLast Go.Proofs.YtlnbekaldemebaaGreatDoorW.PrintMore
set_option linter.unusedVariables false
set_option linter.unusedSimpArgs false
theorem rdR {l : List SgI} {i : Nat} (h : i < l.length) : rd_T65 (l.map cR) (i : Int) = cR l[i] := by
 unfold rd_T65
 rw [Int.toNat_natCast, List.getD_eq_getElem?_getD, List.getElem?_map, List.getElem?_eq_getElem h]
 rfl
theorem ev_rRight (v : Int) (l : List SgI) (hl : l.length ≤ 1000000) : Ev (fun k => thwartref12_Right.f k v (l.map cR)) (rightB v l) := by
 have step : ∀ (d i : Nat) (last : Int), i + d = l.length → -1 ≤ last → (i = 0 → last = -1) → (0 < i → (rd_T65 (l.map cR) ((i - 1 : Nat) : Int)).f0 = last) →
   Ev (fun k => thwartref12_Right.l0 k (i : Int) v (l.map cR)) (rightS last (l.drop i) && decide (1 ≤ v) && decide (v ≤ 999999) && decide (l.length ≤ 200)) := by
  intro d
  induction d with
  | zero =>
   intro i last hi _ _ _
   have hd : l.drop i = [] := List.drop_eq_nil_of_le (by omega)
   refine Ev.step (f := fun _ => if v ≥ 1 then (if v ≤ 999999 then some (decide ((l.length : Int) ≤ 200)) else some false) else some false) (fun k => ?_) ?_
   ·rw [thwartref12_Right.l0, List.length_map, if_neg (by omega)]
   ·rw [hd]
    unfold rightS
    refine ev_some fun k => ?_
    by_cases h1 : 1 ≤ v
    ·rw [if_pos h1]
     by_cases h2 : v ≤ 999999
     ·rw [if_pos h2, decide_eq_true h1, decide_eq_true h2]
      congr 1
      rw [Bool.true_and, Bool.true_and, Bool.true_and]
      exact decide_eq_decide.2 (by omega)
     ·rw [if_neg h2, decide_eq_false h2]
      simp
    ·rw [if_neg h1, decide_eq_false h1]
     simp
  | succ d ih =>
   intro i last hi hm1 hz hp
   have hlt : i < l.length := by omega
   have hx := rdR hlt
   have hi1 : wrap64 ((i : Int) + 1) = ((i + 1 : Nat) : Int) := by rw [wrap64_in (by omega) (by omega)]; omega
   have hc1 : (i : Int) < (l.length : Int) := by omega
   have hc2 : (0 : Int) ≤ (i : Int) := by omega
   have ih' := fun (h : -1 ≤ (l[i]'hlt).f0) => ih (i + 1) (l[i]'hlt).f0 (by omega) h (fun h => by omega) (fun _ => by rw [Nat.add_sub_cancel, hx]; rfl)
   rw [List.drop_eq_getElem_cons hlt]
   generalize l.drop (i + 1) = dr at ih' ⊢
   generalize l[i] = x at hx ih' ⊢
   refine Ev.step (f := fun k => if x.f0 < 0 then some false else if x.f0 > 999999 then some false else if x.f1 < 0 then some false else if x.f1 > 1048576 then some false else if x.f0 ≤ last then some false else thwartref12_Right.l0 k ((i + 1 : Nat) : Int) v (l.map cR)) (fun k => ?_) ?_
   ·rw [thwartref12_Right.l0, List.length_map, if_pos hc1, if_pos hc2, hx, hi1]
    show (if x.f0 < 0 then some false else if x.f0 > 999999 then some false else if x.f1 < 0 then some false else if x.f1 > 1048576 then some false else _) = _
    by_cases c1 : x.f0 < 0
    ·rw [if_pos c1, if_pos c1]
    rw [if_neg c1, if_neg c1]
    by_cases h0 : i = 0
    ·have hl1 := hz h0
     rw [if_neg (show ¬ ((i : Int) > 0) by omega), if_neg (show ¬ x.f0 ≤ last by omega)]
    ·have hi2 : wrap64 ((i : Int) - 1) = ((i - 1 : Nat) : Int) := by rw [wrap64_in (by omega) (by omega)]; omega
     have hc3 : ((i : Int) > 0) := by omega
     have hc4 : (0 : Int) ≤ ((i - 1 : Nat) : Int) := by omega
     have hc5 : ((i - 1 : Nat) : Int) < (l.length : Int) := by omega
     rw [if_pos hc3, hi2, if_pos hc4, if_pos hc5, hp (by omega)]
     rfl
   ·rw [rightS]
    by_cases c0 : x.f0 < 0
    ·refine ev_if_pos c0 (ev_some fun _ => ?_)
     rw [decide_eq_true (show x.f0 ≤ last by omega)]; simp
    refine ev_if_neg c0 ?_
    by_cases c2 : x.f0 > 999999
    ·refine ev_if_pos c2 (ev_some fun _ => ?_)
     rw [decide_eq_true (show 999999 < x.f0 from c2)]; simp
    refine ev_if_neg c2 ?_
    by_cases c3 : x.f1 < 0
    ·refine ev_if_pos c3 (ev_some fun _ => ?_)
     rw [decide_eq_true c3]; simp
    refine ev_if_neg c3 ?_
    by_cases c4 : x.f1 > 1048576
    ·refine ev_if_pos c4 (ev_some fun _ => ?_)
     rw [decide_eq_true (show 1048576 < x.f1 from c4)]; simp
    refine ev_if_neg c4 ?_
    by_cases c1 : x.f0 ≤ last
    ·refine ev_if_pos c1 (ev_some fun _ => ?_)
     rw [decide_eq_true c1]; simp
    refine ev_if_neg c1 ?_
    rw [decide_eq_false c1, decide_eq_false (show ¬ 999999 < x.f0 from c2), decide_eq_false c3, decide_eq_false (show ¬ 1048576 < x.f1 from c4)]
    exact ih' (by omega)
 exact step l.length 0 (-1) (by omega) (by omega) (fun _ => rfl) (fun h => by omega)
set_option maxHeartbeats 1600000 in
theorem ev_rBytes (v : Int) (l : List SgI) (hl : l.length ≤ 1000) (hu : ∀ x ∈ l, U32 x) : Ev (fun k => thwartref12_Bytes.f k v (l.map cR)) (bytesR v l) := by
 unfold thwartref12_Bytes.f bytesR
 refine Ev.bind (ev_rRight v l (by omega)) ?_
 rw [List.length_map]
 cases hr : rightB v l with
 | false =>
  rw [if_neg (by simp)]
  exact ev_some fun _ => if_neg (by simp)
 | true =>
  rw [if_pos rfl]
  obtain ⟨h1, h2, h3, h4⟩ := rightB_of hr
  obtain ⟨vn, rfl⟩ : ∃ n : Nat, v = (n : Int) := ⟨v.toNat, by omega⟩
  have ev : IntKind.u64.wrap (vn : Int) = (vn : Int) := u64_in (by omega) (by omega)
  have el : IntKind.u64.wrap (l.length : Int) = (l.length : Int) := u64_in (by omega) (by omega)
  refine ev_yes ?_
  rw [ev, el]
  refine Ev.bind (ev_rPutS vn (by omega)) ?_
  refine Ev.bind (ev_rPutS l.length (by omega)) ?_
  have z1 := putS_len vn
  have z2 := putS_len l.length
  refine ev_if_pos (by rw [B_size, B_size]; omega) ?_
  rw [Int.toNat_natCast]
  have hap : ∀ a b : Bs, B a ++ B b = B (a ++ b) := fun a b => L_inj (by simp [L, B])
  have step : ∀ (d i : Nat), i + d = l.length → Ev (fun k => thwartref12_Bytes.l0 k (B (putS vn ++ putS l.length ++ segsB ((l.take i).map unSg))) (i : Int) (vn : Int) (l.map cR)) (B (sealS (bodyS vn (l.map unSg))), 0) := by
   intro d
   induction d with
   | zero =>
    intro i hi
    have ht : l.take i = l := List.take_of_length_le (by omega)
    rw [ht]
    have hz := segsB_len (l.map unSg)
    rw [List.length_map] at hz
    refine Ev.step (f := fun k => (thwartref02_Seal.f k (B (putS vn ++ putS l.length ++ segsB (l.map unSg)))).bind fun t => some (t, 0)) (fun k => ?_) ?_
    ·rw [thwartref12_Bytes.l0, List.length_map, if_neg (by omega)]
    ·refine Ev.bind (ev_rSeal _ (by rw [B_size, List.length_append, List.length_append]; omega)) ?_
     rw [L_B]
     refine ev_some fun _ => ?_
     unfold bodyS
     rw [List.length_map]
   | succ d ih =>
    intro i hi
    have hlt : i < l.length := by omega
    have hx := rdR hlt
    have hi1 : wrap64 ((i : Int) + 1) = ((i + 1 : Nat) : Int) := by rw [wrap64_in (by omega) (by omega)]; omega
    have ih' := ih (i + 1) (by omega)
    have hsz := segsB_len ((l.take i).map unSg)
    rw [List.length_map, List.length_take] at hsz
    rw [List.take_succ_eq_append_getElem hlt, List.map_append, List.map_singleton, segsB_snoc] at ih'
    have hm := h4 _ (List.getElem_mem hlt)
    have hmu := hu _ (List.getElem_mem hlt)
    unfold U32 at hmu
    generalize segsB ((l.take i).map unSg) = acc at ih' hsz ⊢
    generalize l[i] = x at hx ih' hm hmu ⊢
    obtain ⟨x0, x1, x2⟩ := x
    simp only at hm hmu
    obtain ⟨n0, rfl⟩ : ∃ n : Nat, x0 = (n : Int) := ⟨x0.toNat, by omega⟩
    obtain ⟨n1, rfl⟩ : ∃ n : Nat, x1 = (n : Int) := ⟨x1.toNat, by omega⟩
    obtain ⟨n2, rfl⟩ : ∃ n : Nat, x2 = (n : Int) := ⟨x2.toNat, by omega⟩
    have y0 := putS_len n0
    have y1 := putS_len n1
    have y2 := putS_len n2
    have w0 : IntKind.u64.wrap (n0 : Int) = (n0 : Int) := u64_in (by omega) (by omega)
    have w1 : IntKind.u64.wrap (n1 : Int) = (n1 : Int) := u64_in (by omega) (by omega)
    have w2 : IntKind.u64.wrap (n2 : Int) = (n2 : Int) := u64_in (by omega) (by omega)
    have hb : segB (unSg ⟨(n0 : Int), (n1 : Int), (n2 : Int)⟩) = putS n0 ++ putS n1 ++ putS n2 := by
     unfold segB unSg
     simp
    rw [hb] at ih'
    have hc1 : (i : Int) < (l.length : Int) := by omega
    have hc2 : (0 : Int) ≤ (i : Int) := by omega
    have hs0 : (putS vn ++ putS l.length ++ acc).length ≤ 40000 := by rw [List.length_append, List.length_append]; omega
    have hs1 : (B (putS vn ++ putS l.length ++ acc)).size + (B (putS n0)).size ≤ 9223372036854775807 := by rw [B_size, B_size]; omega
    have hs2 : (B (putS vn ++ putS l.length ++ acc)).size + (B (putS n0)).size + (B (putS n1)).size ≤ 9223372036854775807 := by rw [B_size, B_size, B_size]; omega
    have hs3 : (B (putS vn ++ putS l.length ++ acc)).size + (B (putS n0)).size + (B (putS n1)).size + (B (putS n2)).size ≤ 9223372036854775807 := by rw [B_size, B_size, B_size, B_size]; omega
    refine Ev.step (fun k => by rw [thwartref12_Bytes.l0, List.length_map, if_pos hc1, if_pos hc2, hx, hi1]) ?_
    show Ev (fun k => (thwartref01_Put.f k (IntKind.u64.wrap (n0 : Int))).bind _) _
    rw [w0]
    refine Ev.bind (ev_rPutS n0 (by omega)) ?_
    refine ev_if_pos hs1 ?_
    show Ev (fun k => (thwartref01_Put.f k (IntKind.u64.wrap (n1 : Int))).bind _) _
    rw [w1]
    refine Ev.bind (ev_rPutS n1 (by omega)) ?_
    refine ev_if_pos hs2 ?_
    show Ev (fun k => (thwartref01_Put.f k (IntKind.u64.wrap (n2 : Int))).bind _) _
    rw [w2]
    refine Ev.bind (ev_rPutS n2 (by omega)) ?_
    refine ev_if_pos hs3 ?_
    rw [hap, hap, hap]
    have e1 : putS vn ++ putS l.length ++ acc ++ putS n0 ++ putS n1 ++ putS n2 = putS vn ++ putS l.length ++ (acc ++ (putS n0 ++ putS n1 ++ putS n2)) := by simp only [List.append_assoc]
    rw [e1]
    exact ih'
  have h0 := step l.length 0 (by omega)
  rw [hap]
  have e0 : segsB ((l.take 0).map unSg) = [] := rfl
  rw [e0, List.append_nil] at h0
  exact h0
end Go.Proofs.YtlnbekaldemebaaGreatDoor.Thw
/-! ## Layer 12: the document's Read comes to what manifest.Read comes to. -/
namespace Go.Proofs.YtlnbekaldemebaaGreatDoor.Thw
open Go Go.RowKit Go.Proofs.YtlnbekaldemebaaGreatDoor.Print Go.Proofs.YtlnbekaldemebaaGreatDoorW.PrintWords Go.Proofs.YtlnbekaldemebaaGreatDoorW.PrintLast Go.Proofs.YtlnbekaldemebaaGreatDoorW.PrintMore
set_option linter.unusedVariables false
set_option linter.unusedSimpArgs false
def putsL (l : List Nat) : Bs := (l.map putS).flatten
theorem putsL_cons (n : Nat) (l : List Nat) : putsL (n :: l) = putS n ++ putsL l := by simp [putsL]
theorem putsL_append (l r : List Nat) : putsL (l ++ r) = putsL l ++ putsL r := by simp [putsL]
theorem putsL_len (l : List Nat) : l.length ≤ (putsL l).length := by
 induction l with
 | nil => simp [putsL]
 | cons n l ih =>
  rw [putsL_cons, List.length_append, List.length_cons]
  have := putS_pos n
  omega
def flat3 : List Sn → List Nat
 | [] => []
 | p :: l => p.1 :: p.2.1 :: p.2.2 :: flat3 l
def trip : List Nat → List Sn
 | a :: b :: c :: r => (a, b, c) :: trip r
 | _ => []
theorem trip_flat : ∀ l : List Sn, trip (flat3 l) = l
 | [] => rfl
 | p :: l => by rw [flat3, trip, trip_flat l]
theorem segsB_puts : ∀ l : List Sn, segsB l = putsL (flat3 l)
 | [] => rfl
 | p :: l => by
  rw [flat3, putsL_cons, putsL_cons, putsL_cons, ← segsB_puts l]
  simp [segsB, segB]
theorem body_puts (v : Nat) (l : List Sn) : bodyS v l = putsL (v :: l.length :: flat3 l) := by
 unfold bodyS
 rw [putsL_cons, putsL_cons, segsB_puts, List.append_assoc]
theorem flat3_le : ∀ l : List Sn, (∀ p ∈ l, Fits p) → ∀ n ∈ flat3 l, n ≤ 4294967295
 | [], _, n, h => by cases h
 | p :: l, hf, n, h => by
  rw [flat3] at h
  obtain ⟨h1, h2, h3⟩ := hf p (List.mem_cons_self ..)
  rcases List.mem_cons.1 h with rfl | h
  ·omega
  rcases List.mem_cons.1 h with rfl | h
  ·omega
  rcases List.mem_cons.1 h with rfl | h
  ·omega
  ·exact flat3_le l (fun p hp => hf p (List.mem_cons_of_mem _ hp)) n h
theorem puts_prefix : ∀ (acc nums : List Nat) (rest : Bs), (∀ a ∈ acc, a ≤ 4294967295) → (∀ a ∈ nums, a ≤ 4294967295) → putsL acc ++ rest = putsL nums → ∃ n2, nums = acc ++ n2 ∧ rest = putsL n2
 | [], nums, rest, _, _, h => ⟨nums, rfl, by simpa [putsL] using h⟩
 | a :: acc, [], rest, _, _, h => by
  exfalso
  rw [putsL_cons] at h
  have h1 := congrArg List.length h
  have h2 := putS_pos a
  rw [List.length_append, List.length_append] at h1
  rw [show putsL [] = [] from rfl, List.length_nil] at h1
  omega
 | a :: acc, c :: nums, rest, ha, hc, h => by
  rw [putsL_cons, putsL_cons, List.append_assoc] at h
  have ha1 := ha a (List.mem_cons_self ..)
  have hc1 := hc c (List.mem_cons_self ..)
  have h1 := takeS_put a (by omega) (putsL acc ++ rest)
  rw [h, takeS_put c (by omega)] at h1
  simp only [Prod.mk.injEq, and_true] at h1
  obtain ⟨rfl, h2⟩ := h1
  obtain ⟨n2, e1, e2⟩ := puts_prefix acc nums rest (fun x hx => ha x (List.mem_cons_of_mem _ hx)) (fun x hx => hc x (List.mem_cons_of_mem _ hx)) h2.symm
  exact ⟨n2, by rw [e1]; rfl, e2⟩
/-- What both readings come to. -/
def rdT (b : Bs) : Int × List SgR × Int :=
 match readR b with
 | (some (v, l), _) => ((v : Int), (l.map mkSg).map cR, 0)
 | (none, e) => (0, [], e)
theorem rdT_some {b : Bs} {v : Nat} {l : List Sn} (h : readR b = (some (v, l), 0)) : rdT b = ((v : Int), (l.map mkSg).map cR, 0) := by unfold rdT; rw [h]
/-- b holds s, sealed; acc is read, rest is left. A manifest that reads is all of the numbers. -/
theorem read_nums {b s : Bs} {v : Nat} {l : List Sn} {e : Int} {acc : List Nat} {rest : Bs} (hs : openS b = (s, true)) (h : readR b = (some (v, l), e)) (hacc : ∀ a ∈ acc, a ≤ 4294967295) (he : s = putsL acc ++ rest) :
  ∃ n2, v :: l.length :: flat3 l = acc ++ n2 ∧ rest = putsL n2 ∧ (∀ a ∈ n2, a ≤ 4294967295) := by
 obtain ⟨h1, h2, h3, h4⟩ := readR_of h
 obtain ⟨r1, r2, r3, r4⟩ := rightB_of h2
 rw [List.length_map] at r3
 have ho : openS b = (bodyS v l, true) := by rw [h1, openS_seal]
 rw [hs] at ho
 simp only [Prod.mk.injEq, and_true] at ho
 have hall : ∀ a ∈ (v :: l.length :: flat3 l), a ≤ 4294967295 := by
  intro a ha
  rcases List.mem_cons.1 ha with rfl | ha
  ·omega
  rcases List.mem_cons.1 ha with rfl | ha
  ·omega
  ·exact flat3_le l h3 a ha
 obtain ⟨n2, e1, e2⟩ := puts_prefix acc (v :: l.length :: flat3 l) rest hacc hall (by rw [← he, ho, body_puts])
 exact ⟨n2, e1, e2, fun a ha => hall a (by rw [e1]; exact List.mem_append_right _ ha)⟩
theorem rdT_bad {b s : Bs} (hs : openS b = (s, true)) (h : ∀ v l e, readR b ≠ (some (v, l), e)) : rdT b = (0, [], 2) := by
 rcases readR_err b with ⟨v, l, h1⟩ | ⟨h1, _⟩ | ⟨_, h1⟩
 ·exact absurd h1 (h v l 0)
 ·unfold rdT; rw [h1]
 ·rw [hs] at h1; cases h1
theorem rd_nat {acc : List Nat} {i : Nat} (h : i < acc.length) : rd (acc.map Int.ofNat) (i : Int) = (acc[i] : Nat) := by
 unfold rd
 rw [Int.toNat_natCast, List.getD_eq_getElem?_getD, List.getElem?_map, List.getElem?_eq_getElem h]
 rfl
theorem trip_snoc {acc : List Nat} {i : Nat} (h : i + 2 < acc.length) : trip (acc.drop i) = (acc[i], acc[i + 1], acc[i + 2]) :: trip (acc.drop (i + 3)) := by
 rw [List.drop_eq_getElem_cons (by omega : i < acc.length), List.drop_eq_getElem_cons (by omega : i + 1 < acc.length), List.drop_eq_getElem_cons (by omega : i + 1 + 1 < acc.length), trip]
theorem trip_short : ∀ (l : List Nat), l.length ≤ 2 → trip l = []
 | [], _ => rfl
 | [_], _ => rfl
 | [_, _], _ => rfl
 | _ :: _ :: _ :: _, h => by simp at h
theorem trip_len : ∀ (l : List Nat), 3 * (trip l).length ≤ l.length
 | [] => by simp [trip]
 | [_] => by simp [trip]
 | [_, _] => by simp [trip]
 | _ :: _ :: _ :: r => by
  have := trip_len r
  rw [trip]
  simp only [List.length_cons]
  omega
theorem trip_le : ∀ (l : List Nat), (∀ a ∈ l, a ≤ 4294967295) → ∀ p ∈ trip l, p.2.2 ≤ 4294967295
 | [], _, p, h => by cases h
 | [_], _, p, h => by cases h
 | [_, _], _, p, h => by cases h
 | a :: b :: c :: r, hl, p, h => by
  rw [trip] at h
  rcases List.mem_cons.1 h with rfl | h
  ·exact hl c (by simp)
  ·exact trip_le r (fun x hx => hl x (by simp [hx])) p h
/-- The end: the numbers are all read. -/
theorem rdT_end {b s : Bs} {acc : List Nat} (hs : openS b = (s, true)) (hb : sealS s = b) (hacc : ∀ a ∈ acc, a ≤ 4294967295) (he : s = putsL acc) (h2 : 2 ≤ acc.length) :
  rdT b = (if bytesR ((acc[0]'(by omega) : Nat) : Int) ((trip (acc.drop 2)).map mkSg) = (B b, 0) then (((acc[0]'(by omega) : Nat) : Int), ((trip (acc.drop 2)).map mkSg).map cR, 0) else (0, [], 2)) := by
 have hno : ∀ v l e, readR b = (some (v, l), e) → v = acc[0]'(by omega) ∧ l = trip (acc.drop 2) ∧ e = 0 := by
  intro v l e h
  obtain ⟨n2, e1, e2, _⟩ := read_nums (acc := acc) (rest := []) hs h hacc (by rw [he, List.append_nil])
  have hn2 : n2 = [] := by
   have := putsL_len n2
   rw [← e2] at this
   exact List.eq_nil_of_length_eq_zero (by simpa using this)
  rw [hn2, List.append_nil] at e1
  subst e1
  exact ⟨rfl, by show l = trip (flat3 l); rw [trip_flat], (readR_of h).2.2.2⟩
 split
 ·rename_i hbt
  unfold bytesR at hbt
  split at hbt
  ·rename_i hr
   simp only [Prod.mk.injEq, and_true] at hbt
   rw [map_un_mk, Int.toNat_natCast] at hbt
   have hbb := congrArg L hbt
   rw [L_B, L_B] at hbb
   have h := readR_put hr (fun p hp => trip_le _ (fun a ha => hacc a (List.mem_of_mem_drop ha)) p hp)
   rw [hbb] at h
   rw [rdT_some h]
  ·simp at hbt
 ·rename_i hbt
  refine rdT_bad hs fun v l e h => hbt ?_
  obtain ⟨rfl, rfl, rfl⟩ := hno v l e h
  obtain ⟨h1, h3, h4, _⟩ := readR_of h
  unfold bytesR
  rw [if_pos h3, map_un_mk, Int.toNat_natCast, ← h1]
set_option maxHeartbeats 1600000 in
theorem ev_rRead (b : ByteArray) (hb : b.size ≤ 3000) : Ev (fun k => thwartref12_Read.f k b) (rdT (L b)) := by
 unfold thwartref12_Read.f
 refine Ev.bind (ev_rOpen b (by omega)) ?_
 rcases openS_told (L b) with ⟨s, ho, hse⟩ | ho
 ·rw [ho]
  refine ev_if_pos rfl ?_
  show Ev (fun k => thwartref12_Read.l0 k b (B s) []) _
  have hsl : s.length ≤ 3000 := by
   have h1 := congrArg List.length hse
   rw [sealS_length] at h1
   have h2 : (L b).length = b.size := by simp [L]
   omega
  have hend : ∀ (acc : List Nat), (∀ a ∈ acc, a ≤ 4294967295) → s = putsL acc → (h2 : 2 ≤ acc.length) → ∀ (d i : Nat) (dn : List Sn), i + d = acc.length → dn ++ trip (acc.drop i) = trip (acc.drop 2) →
    Ev (fun k => thwartref12_Read.l1 k b (acc.map Int.ofNat) (i : Int) ((acc[0]'(by omega) : Nat) : Int) ((dn.map mkSg).map cR)) (rdT (L b)) := by
   intro acc hacc hs h2 d
   have hal : acc.length ≤ 3000 := by have := putsL_len acc; rw [← hs] at this; omega
   induction d using Nat.strongRecOn with
   | _ d ih =>
    intro i dn hi hdn
    have e2 : wrap64 ((i : Int) + 2) = ((i + 2 : Nat) : Int) := by rw [wrap64_in (by omega) (by omega)]; omega
    by_cases hc : i + 2 < acc.length
    ·have e1 : wrap64 ((i : Int) + 1) = ((i + 1 : Nat) : Int) := by rw [wrap64_in (by omega) (by omega)]; omega
     have e3 : wrap64 ((i : Int) + 3) = ((i + 3 : Nat) : Int) := by rw [wrap64_in (by omega) (by omega)]; omega
     have q0 : ((i + 2 : Nat) : Int) < (acc.length : Int) := by omega
     have q1 : (0 : Int) ≤ (i : Int) := by omega
     have q2 : (i : Int) < (acc.length : Int) := by omega
     have q3 : (0 : Int) ≤ ((i + 1 : Nat) : Int) := by omega
     have q4 : ((i + 1 : Nat) : Int) < (acc.length : Int) := by omega
     have q5 : (0 : Int) ≤ ((i + 2 : Nat) : Int) := by omega
     have hb0 := hacc acc[i] (List.getElem_mem _)
     have hb1 := hacc acc[i + 1] (List.getElem_mem _)
     have hb2 := hacc acc[i + 2] (List.getElem_mem _)
     have w0 : wrap64 ((acc[i] : Nat) : Int) = (acc[i] : Nat) := wrap64_in (by omega) (by omega)
     have w1 : wrap64 ((acc[i + 1] : Nat) : Int) = (acc[i + 1] : Nat) := wrap64_in (by omega) (by omega)
     have w2 : ((acc[i + 2] : Nat) : Int) % 4294967296 = (acc[i + 2] : Nat) := by omega
     rw [trip_snoc hc] at hdn
     have hdl : dn.length ≤ 1000 := by
      have h3 := congrArg List.length hdn
      have h4 := trip_len (acc.drop 2)
      rw [List.length_append, List.length_cons] at h3
      rw [List.length_drop] at h4
      omega
     have q6 : ((dn.map mkSg).map cR).length < 5864062014805 := by rw [List.length_map, List.length_map]; omega
     have ih' := ih (d - 3) (by omega) (i + 3) (dn ++ [(acc[i], acc[i + 1], acc[i + 2])]) (by omega) (by rw [← hdn, List.append_assoc]; rfl)
     refine Ev.step (fun k => ?_) ih'
     rw [thwartref12_Read.l1, List.length_map, e2, e1, e3, if_pos q0, if_pos q1, if_pos q2, if_pos q3, if_pos q4, if_pos q5, if_pos q6, rd_nat (by omega), rd_nat (by omega), rd_nat (by omega), w0, w1, w2]
     rw [List.map_append, List.map_append]
     rfl
    ·have q0 : ¬ ((i + 2 : Nat) : Int) < (acc.length : Int) := by omega
     have hdr : trip (acc.drop i) = [] := trip_short _ (by rw [List.length_drop]; omega)
     rw [hdr, List.append_nil] at hdn
     subst hdn
     have hdl : (trip (acc.drop 2)).length ≤ 1000 := by
      have h4 := trip_len (acc.drop 2)
      rw [List.length_drop] at h4
      omega
     have htl := trip_le (acc.drop 2) (fun a ha => hacc a (List.mem_of_mem_drop ha))
     rw [rdT_end ho hse hacc hs h2, B_L]
     generalize trip (acc.drop 2) = tr at hdl htl ⊢
     generalize hv : ((acc[0]'(by omega) : Nat) : Int) = v
     refine Ev.step (fun k => by rw [thwartref12_Read.l1, List.length_map, e2, if_neg q0]) ?_
     refine Ev.bind (ev_rBytes v (tr.map mkSg) (by rw [List.length_map]; exact hdl) (fun x hx => by
      obtain ⟨p, hp, rfl⟩ := List.mem_map.1 hx
      have := htl p hp
      unfold U32 mkSg
      simp only
      omega)) ?_
     obtain ⟨y, e, hye⟩ : ∃ y e, bytesR v (tr.map mkSg) = (y, e) := ⟨_, _, rfl⟩
     rw [hye]
     show Ev (fun k => if e = 0 then (if y.toList = b.toList then _ else _) else _) _
     by_cases h0 : e = 0
     ·refine ev_if_pos h0 ?_
      by_cases hy : y.toList = b.toList
      ·have hyb : y = b := L_inj (by rw [← toList_L, ← toList_L]; exact hy)
       refine ev_if_pos hy (ev_some fun _ => ?_)
       rw [if_pos (by rw [h0, hyb])]
      ·refine ev_if_neg hy (ev_some fun _ => ?_)
       rw [if_neg]
       intro h
       simp only [Prod.mk.injEq] at h
       exact hy (by rw [h.1])
     ·refine ev_if_neg h0 (ev_some fun _ => ?_)
      rw [if_neg]
      intro h
      simp only [Prod.mk.injEq] at h
      exact h0 h.2
  have stop : ∀ (acc : List Nat), (∀ a ∈ acc, a ≤ 4294967295) → s = putsL acc ++ [] → Ev (fun k => thwartref12_Read.l0 k b (B []) (acc.map Int.ofNat)) (rdT (L b)) := by
   intro acc hacc hs
   rw [List.append_nil] at hs
   have hz : ¬ (((B []).size : Nat) : Int) > 0 := by rw [B_size]; simp
   by_cases h2 : 2 ≤ acc.length
   ·have c1 : ¬ ((acc.length : Nat) : Int) < 2 := by omega
    have c2 : (0 : Int) < ((acc.length : Nat) : Int) := by omega
    have hb0 := hacc (acc[0]'(by omega)) (List.getElem_mem _)
    have w0 : wrap64 ((acc[0]'(by omega) : Nat) : Int) = (acc[0]'(by omega) : Nat) := wrap64_in (by omega) (by omega)
    have hr0 : rd (acc.map Int.ofNat) 0 = (acc[0]'(by omega) : Nat) := rd_nat (i := 0) (by omega)
    refine Ev.step (fun k => ?_) (hend acc hacc hs h2 (acc.length - 2) 2 [] (by omega) rfl)
    rw [thwartref12_Read.l0, List.length_map, if_neg hz, if_neg c1, if_pos c2, hr0, w0]
    rfl
   ·have c1 : ((acc.length : Nat) : Int) < 2 := by omega
    rw [rdT_bad ho (fun v l e h => by
     obtain ⟨n2, e1, e2, _⟩ := read_nums (acc := acc) (rest := []) ho h hacc (by rw [hs, List.append_nil])
     have hn2 : n2 = [] := by
      have := putsL_len n2
      rw [← e2] at this
      exact List.eq_nil_of_length_eq_zero (by simpa using this)
     rw [hn2, List.append_nil] at e1
     have := congrArg List.length e1
     simp at this
     omega)]
    refine Ev.step (f := fun _ => some _) (fun k => ?_) (ev_some fun _ => rfl)
    rw [thwartref12_Read.l0, List.length_map, if_neg hz, if_pos c1]
  have step : ∀ (d : Nat) (rest : Bs) (acc : List Nat), rest.length ≤ d → (∀ a ∈ acc, a ≤ 4294967295) → s = putsL acc ++ rest → Ev (fun k => thwartref12_Read.l0 k b (B rest) (acc.map Int.ofNat)) (rdT (L b)) := by
   intro d
   induction d with
   | zero =>
    intro rest acc hr hacc hs
    have hr0 : rest = [] := List.eq_nil_of_length_eq_zero (by omega)
    subst hr0
    exact stop acc hacc hs
   | succ d ih =>
    intro rest acc hr hacc hs
    by_cases hr0 : rest = []
    ·subst hr0
     exact stop acc hacc hs
    ·have hpos : 0 < rest.length := List.length_pos_iff.2 hr0
     have hz : (((B rest).size : Nat) : Int) > 0 := by rw [B_size]; omega
     have hrl : rest.length ≤ 3000 := by have := congrArg List.length hs; rw [List.length_append] at this; omega
     have hal : acc.length ≤ 3000 := by have := congrArg List.length hs; rw [List.length_append] at this; have := putsL_len acc; omega
     refine Ev.step (fun k => by rw [thwartref12_Read.l0, if_pos hz]) ?_
     refine Ev.bind (ev_rTake (B rest) (by rw [B_size]; omega)) ?_
     rw [L_B]
     have hbad : ∀ (P : ¬ ((takeS rest).2.2 = 0 ∧ (takeS rest).1 ≤ 4294967295)), rdT (L b) = (0, [], 2) := fun P => rdT_bad ho (fun v l e h => by
      obtain ⟨n2, e1, e2, e3⟩ := read_nums ho h hacc hs
      cases n2 with
      | nil => exact hr0 e2
      | cons n n2 =>
       have := e3 n (List.mem_cons_self ..)
       rw [putsL_cons] at e2
       rw [e2, takeS_put n (by omega)] at P
       exact P ⟨rfl, this⟩)
     have htold := takeS_told rest
     obtain ⟨n, r, e, hne⟩ : ∃ n r e, takeS rest = (n, r, e) := ⟨_, _, _, rfl⟩
     rw [hne] at hbad htold ⊢
     unfold TK
     show Ev (fun k => if e = 0 then (if (n : Int) > 4294967295 then _ else (if (acc.map Int.ofNat).length < 17592186044416 then thwartref12_Read.l0 k b (B r) (acc.map Int.ofNat ++ [(n : Int)]) else _)) else _) _
     by_cases h0 : e = 0
     ·refine ev_if_pos h0 ?_
      by_cases hnn : n ≤ 4294967295
      ·refine ev_if_neg (by omega) ?_
       refine ev_if_pos (by rw [List.length_map]; omega) ?_
       rcases htold with h1 | h1 | h1
       ·obtain ⟨h1, h2, h3, h4, h5⟩ := h1
        simp only at h2 h5
        have ih' := ih r (acc ++ [n]) (by omega) (fun a ha => by
         rcases List.mem_append.1 ha with ha | ha
         ·exact hacc a ha
         ·rw [List.mem_singleton.1 ha]; exact hnn) (by rw [hs, putsL_append, ← h2, List.append_assoc]; simp [putsL])
        rw [List.map_append] at ih'
        exact ih'
       ·simp only [Prod.mk.injEq] at h1; omega
       ·simp only [Prod.mk.injEq] at h1; omega
      ·rw [hbad (fun h => hnn h.2)]
       exact ev_if_pos (by omega) (ev_some fun _ => rfl)
     ·rw [hbad (fun h => h0 h.1)]
      exact ev_if_neg h0 (ev_some fun _ => rfl)
  exact step s.length s [] (Nat.le_refl _) (fun a ha => by cases ha) (by simp [putsL])
 ·rw [ho]
  refine ev_if_neg (by simp) (ev_some fun _ => ?_)
  rcases readR_err (L b) with ⟨v, l, h1⟩ | ⟨_, h1⟩ | ⟨h1, _⟩
  ·obtain ⟨h1, _⟩ := readR_of h1
   rw [h1, openS_seal] at ho
   exact absurd (congrArg Prod.snd ho) (by simp)
  ·rw [ho] at h1; cases h1
  ·unfold rdT; rw [h1]
end Go.Proofs.YtlnbekaldemebaaGreatDoor.Thw
