/- Several texts of mine in one (Ev13p, Ev13q). -/
import Derived.Test.YtlnbekaldemebaaGreatDoorMG3
import Derived.Test.YtlnbekaldemebaaGreatDoorMQ3
import Derived.Test.YtlnbekaldemebaaGreatDoorPrint11
import Derived.Test.YtlnbekaldemebaaGreatDoorPrint12
import Derived.Test.YtlnbekaldemebaaGreatDoorPrint10
import Derived.Deep.CutRange
/-! ## Layer 13 (publish): the document's number, has, segs, to, in plain words; what Waste comes to. -/
namespace Go.Proofs.YtlnbekaldemebaaGreatDoor.Thw
open Go Go.RowKit Go.Proofs.YtlnbekaldemebaaGreatDoor.Print Go.Proofs.YtlnbekaldemebaaGreatDoorW.PrintWords Go.Proofs.YtlnbekaldemebaaGreatDoorW.PrintLast Go.Proofs.YtlnbekaldemebaaGreatDoorW.PrintMore
set_option linter.unusedVariables false
set_option linter.unusedSimpArgs false
/-- The segment that an object's name tells. -/
def IsO (s : List UInt8) (n : Nat) : Prop := n ≤ 999999 ∧ s = 111 :: six n
theorem IsO.uniq {s : List UInt8} {n m : Nat} (h : IsO s n) (h' : IsO s m) : n = m := by
  have := h.2.symm.trans h'.2
  injection this with _ this
  exact six_inj h.1 h'.1 this
theorem name_isO {s : List UInt8} {n : Int} (hs : s ≠ []) (h : nameL 111 n 0 = s) : IsO s n.toNat ∧ 0 ≤ n := by
  unfold nameL at h
  split at h
  · exact absurd h.symm hs
  · exact ⟨⟨by omega, h.symm⟩, by omega⟩
theorem isO_name {s : List UInt8} {n : Nat} (h : IsO s n) : nameL 111 (n : Int) 0 = s := by
  obtain ⟨h1, h3⟩ := h
  unfold nameL
  rw [if_neg (by omega), h3]
  rfl
def numO (s : ByteArray) (r : Int) : Prop := (∃ n, IsO (L s) n ∧ r = (n : Int)) ∨ ((∀ n, ¬ IsO (L s) n) ∧ r = -1)
theorem ev_rNumber (s : ByteArray) (hs : s.size ≤ 1000) : ∃ r : Int, numO s r ∧ Ev (fun k => thwartref13_number.f k s) r := by
  obtain ⟨l, hl⟩ : ∃ l, ((L s).drop 1).take 6 = l := ⟨_, rfl⟩
  have hll : l.length ≤ 6 := by rw [← hl, List.length_take]; omega
  have hln : l.length = min 6 (s.size - 1) := by rw [← hl, List.length_take, List.length_drop, L_length]
  have hls : ∀ i : Nat, i < l.length → ((i + 1 : Nat) : Int) < (s.size : Int) := fun i h => by omega
  have hl7 : ∀ i : Nat, i < l.length → ((i + 1 : Nat) : Int) < 7 := fun i h => by omega
  have hend : ¬ ((l.length + 1 : Nat) : Int) < (s.size : Int) ∨ ¬ ((l.length + 1 : Nat) : Int) < 7 := by omega
  have hnext : ∀ i : Nat, i < l.length → wrap64 (((i + 1 : Nat) : Int) + 1) = ((i + 1 + 1 : Nat) : Int) := fun i h => by rw [wrap64_in (by omega) (by omega)]; omega
  have hb : ∀ i, i ≤ 6 → -(300 * 64000000) ≤ foldV (l.take i) 0 ∧ foldV (l.take i) 0 ≤ 300 * 64000000 := by
    intro i hi
    have h := foldV_bound (l.take i) 0 300 (by omega) (by omega) (by omega)
    have h2 : (20 : Nat) ^ (l.take i).length ≤ 20 ^ 6 := Nat.pow_le_pow_right (by decide) (by rw [List.length_take]; omega)
    have h3 : (20 : Nat) ^ 6 = 64000000 := by decide
    rw [h3] at h2
    generalize 20 ^ (l.take i).length = z at h h2
    omega
  have hV := hb l.length hll
  rw [List.take_length] at hV
  obtain ⟨V, hVe⟩ : ∃ V, foldV l 0 = V := ⟨_, rfl⟩
  rw [hVe] at hV
  obtain ⟨r, hr, hev⟩ : ∃ r : Int, numO s r ∧ Ev (fun k => if s.toList = ([] : List UInt8) then (some (-1 : Int)) else ((thwartref12_Object.f k V).bind fun t => (if t.toList = s.toList then (some V) else (some (-1))))) r := by
    have hname := ev_rObject V ⟨by omega, by omega⟩
    by_cases he : s.toList = []
    · refine ⟨-1, Or.inr ⟨fun n hn => ?_, rfl⟩, ev_if_pos he (ev_some fun _ => rfl)⟩
      rw [Lib.toList_data] at he
      have := hn.2
      unfold L at this
      rw [he] at this
      cases this
    · by_cases hq : (nameB 111 V 0).toList = s.toList
      · have hs2 : nameL 111 V 0 = L s := by
          rw [Lib.toList_data, Lib.toList_data] at hq
          unfold nameB at hq
          have h9 : L (B (nameL 111 V 0)) = L s := hq
          rwa [L_B] at h9
        obtain ⟨h1, h2⟩ := name_isO (by intro h0; apply he; rw [Lib.toList_data]; exact h0) hs2
        refine ⟨V, Or.inl ⟨V.toNat, h1, by rw [Int.toNat_of_nonneg h2]⟩, ev_if_neg he (Ev.bind hname (ev_if_pos hq (ev_some fun _ => rfl)))⟩
      · refine ⟨-1, Or.inr ⟨fun n hn => hq ?_, rfl⟩, ev_if_neg he (Ev.bind hname (ev_if_neg hq (ev_some fun _ => rfl)))⟩
        have hl2 : l = six n := by
          rw [← hl, hn.2]
          simp [List.take_of_length_le (Nat.le_of_eq (six_length n))]
        have hVn : V = (n : Int) := by
          rw [← hVe, hl2]
          have := foldV_digs 6 n 0 (by have := hn.1; omega)
          unfold six
          rw [this]
          simp
        have h5 := isO_name hn
        rw [hVn, Lib.toList_data, Lib.toList_data]
        unfold nameB
        rw [h5]
        have h6 : L (B (L s)) = L s := L_B _
        exact h6
  refine ⟨r, hr, ?_⟩
  have step : ∀ (d i : Nat), i + d = l.length → Ev (fun k => thwartref13_number.l0 k s (foldV (l.take i) 0) ((i + 1 : Nat) : Int)) r := by
    intro d
    induction d with
    | zero =>
      intro i hi
      obtain rfl : i = l.length := by omega
      rw [List.take_length, hVe]
      refine Ev.step (f := fun k => if s.toList = ([] : List UInt8) then (some (-1 : Int)) else ((thwartref12_Object.f k V).bind fun t => (if t.toList = s.toList then (some V) else (some (-1))))) (fun k => ?_) hev
      rw [thwartref13_number.l0]
      by_cases h1 : ((l.length + 1 : Nat) : Int) < (s.size : Int)
      · rw [if_pos h1, if_neg (hend.resolve_left (fun h => h h1))]
      · rw [if_neg h1]
    | succ d ih =>
      intro i hi
      have hlt : i < l.length := by omega
      have ih' := ih (i + 1) (by omega)
      rw [List.take_succ_eq_append_getElem hlt, foldV_snoc] at ih'
      have hbt : bt s ((i + 1 : Nat) : Int) = (l[i].toNat : Int) := by
        have hlt2 : i + 1 < (L s).length := by rw [L_length]; omega
        rw [bt_L s (i + 1) hlt2]
        have : l[i] = (L s)[i + 1] := by
          simp only [← hl, List.getElem_take, List.getElem_drop]
          congr 1
          omega
        rw [this]
      have hx := (l[i]).toNat_lt
      have hb1 := hb i (by omega)
      generalize foldV (l.take i) 0 = acc at ih' hb1 ⊢
      generalize (l[i]).toNat = x at hx hbt ih'
      have hi1 := hnext i hlt
      have c1 := hls i hlt
      have c2 := hl7 i hlt
      have c3 : (0 : Int) ≤ ((i + 1 : Nat) : Int) := Int.natCast_nonneg _
      have hw : wrap64 ((wrap64 ((wrap64 (10 * acc)) + (wrap64 (bt s ((i + 1 : Nat) : Int))))) - 48) = 10 * acc + (x : Int) - 48 := by
        rw [hbt]
        exact ver_wrap acc x (by have := hb1.1; omega) (by have := hb1.2; omega) hx
      refine Ev.step (f := fun k => thwartref13_number.l0 k s (10 * acc + (x : Int) - 48) ((i + 1 + 1 : Nat) : Int)) (fun k => ?_) ih'
      rw [thwartref13_number.l0, if_pos c1, if_pos c2, if_pos c3, hw, hi1]
  have h0 := step l.length 0 (by omega)
  unfold thwartref13_number.f
  exact h0

/-! ### the program's number -/
theorem numStep_in (a : Int) (x : UInt8) (q : Nat) (ha : 0 ≤ a) (hx : x.toNat = 48 + q) (hb : 10 * a + (q : Int) ≤ 999999) : numStep a x = 10 * a + (q : Int) := by
  unfold numStep
  rw [hx]
  have e1 : wrap64 (10 * a) = 10 * a := wrap64_in (by omega) (by omega)
  rw [e1]
  have e2 : wrap64 (10 * a + ((48 + q : Nat) : Int)) = 10 * a + ((48 + q : Nat) : Int) := wrap64_in (by omega) (by omega)
  rw [e2]
  have e3 : wrap64 (10 * a + ((48 + q : Nat) : Int) - 48) = 10 * a + ((48 + q : Nat) : Int) - 48 := wrap64_in (by omega) (by omega)
  rw [e3]
  omega
theorem num_digs : ∀ (k n : Nat) (a : Int), 0 ≤ a → n < 10 ^ k → a * ((10 ^ k : Nat) : Int) + (n : Int) ≤ 999999 → (digs k n).foldl numStep a = a * ((10 ^ k : Nat) : Int) + (n : Int)
  | 0, n, a, ha, h, _ => by
    have : n = 0 := by simpa using h
    subst this
    simp [digs]
  | k + 1, n, a, ha, h, hb => by
    have hq : n / 10 ^ k < 10 := by
      rw [Nat.pow_succ] at h
      exact Nat.div_lt_of_lt_mul h
    have hd := digit_nat hq
    have h3 := Nat.div_add_mod n (10 ^ k)
    have hm := Nat.mod_lt n (pow_pos10 k)
    have hp := pow_pos10 k
    have h2 := fun hb => num_digs k (n % 10 ^ k) (10 * a + ((n / 10 ^ k : Nat) : Int)) (Int.add_nonneg (by omega) (Int.natCast_nonneg _)) hm hb
    rw [digs, List.foldl_cons]
    rw [Nat.pow_succ] at hb ⊢
    generalize n % 10 ^ k = r at *
    generalize n / 10 ^ k = q at *
    have h3' : (n : Int) = ((10 ^ k : Nat) : Int) * (q : Int) + (r : Int) := by
      have := congrArg (fun x : Nat => (x : Int)) h3
      simp only [Int.natCast_add, Int.natCast_mul] at this
      omega
    have e2 : ((10 ^ k * 10 : Nat) : Int) = ((10 ^ k : Nat) : Int) * 10 := by omega
    rw [e2, h3'] at hb ⊢
    have e3 : (10 * a + (q : Int)) * ((10 ^ k : Nat) : Int) = a * (((10 ^ k : Nat) : Int) * 10) + ((10 ^ k : Nat) : Int) * (q : Int) := by
      rw [Int.add_mul, Int.mul_comm 10 a, Int.mul_assoc, Int.mul_comm 10 ((10 ^ k : Nat) : Int), Int.mul_comm (q : Int)]
    have hb2 : (10 * a + (q : Int)) * ((10 ^ k : Nat) : Int) + (r : Int) ≤ 999999 := by rw [e3]; omega
    have hb3 : 10 * a + (q : Int) ≤ 999999 := by
      have h1 : (10 * a + (q : Int)) * 1 ≤ (10 * a + (q : Int)) * ((10 ^ k : Nat) : Int) := Int.mul_le_mul_of_nonneg_left (by omega) (by omega)
      omega
    have h4 := h2 hb2
    rw [numStep_in a _ q ha hd hb3, h4, e3]
    omega
theorem numF_is {s : ByteArray} {n : Nat} (h : IsO (L s) n) : numF s = ((n : Int), true) := by
  have hN : numN s = (n : Int) := by
    unfold numN
    rw [h.2, List.drop_succ_cons, List.drop_zero]
    have := num_digs 6 n 0 (by omega) (by have := h.1; omega) (by have := h.1; omega)
    unfold six
    rw [this]
    omega
  have he : s.toList ≠ [] := by
    rw [Lib.toList_data]
    have := h.2
    unfold L at this
    rw [this]
    simp
  unfold numF
  rw [if_neg he, hN]
  have h5 : (obj (n : Int)).toList = s.toList := by
    rw [Lib.toList_data, Lib.toList_data]
    show L (nameB 111 (n : Int) 0) = L s
    unfold nameB
    rw [L_B, isO_name h]
  rw [h5]
  simp
theorem numF_not {s : ByteArray} (h : ∀ n, ¬ IsO (L s) n) : (numF s).2 = false := by
  unfold numF
  by_cases he : s.toList = []
  · rw [if_pos he]
  · rw [if_neg he]
    simp only
    rw [beq_eq_false_iff_ne]
    intro h5
    rw [Lib.toList_data, Lib.toList_data] at h5
    have h6 : nameL 111 (numN s) 0 = L s := by
      have h7 : L (nameB 111 (numN s) 0) = L s := h5
      unfold nameB at h7
      rwa [L_B] at h7
    exact h _ (name_isO (fun h0 => he (by rw [Lib.toList_data]; exact h0)) h6).1
theorem isO_noV {s : ByteArray} {n : Nat} (h : IsO (L s) n) : verF s = none := verF_none fun m hm => by
  have h1 := hm.2.2
  rw [h.2] at h1
  injection h1 with h1 _
  exact absurd h1 (by decide)
/-- What the document asks of a name. -/
def keepB (ver : Int) (segs : List SgI) (v : Int) (is : Bool) (n : Int) : Bool := !(is && decide (wrap64 (v + 1) < ver)) && !(decide (0 ≤ n) && !hasN n segs)
theorem need_keep {ver : Int} {segs : List SgI} {s : ByteArray} {v : Int} {is : Bool} {n : Int} (hv : verO s (v, is)) (hn : numO s n) : needB ver segs s = keepB ver segs v is n := by
  unfold needB keepB
  rcases verF_of hv with ⟨m, h1, h2⟩ | ⟨h1, h2⟩
  · rw [h1]
    cases h2
    have hnn : n = -1 := by
      rcases hn with ⟨k, hk, _⟩ | ⟨_, rfl⟩
      · rw [isO_noV hk] at h1; cases h1
      · rfl
    subst hnn
    simp only [Bool.true_and, show decide ((0 : Int) ≤ -1) = false by decide, Bool.false_and, Bool.not_false, Bool.and_true]
    by_cases h : ver ≤ wrap64 ((m : Int) + 1)
    · rw [decide_eq_true h, decide_eq_false (by omega)]; rfl
    · rw [decide_eq_false h, decide_eq_true (by omega)]; rfl
  · rw [h1]
    cases h2
    simp only [Bool.false_and, Bool.not_false, Bool.true_and]
    rcases hn with ⟨k, hk, rfl⟩ | ⟨hk, rfl⟩
    · rw [numF_is hk, if_pos rfl, decide_eq_true (by omega : (0 : Int) ≤ (k : Int))]
      simp
    · rw [numF_not hk]
      simp
/-! ### the rows -/
theorem rdS {l : List SgI} {i : Nat} (h : i < l.length) : rd_T45 l (i : Int) = l[i] := by
  unfold rd_T45
  rw [Int.toNat_natCast, List.getD_eq_getElem?_getD, List.getElem?_eq_getElem h]
  rfl
theorem rdR13 {l : List SgI} {i : Nat} (h : i < l.length) : rd_T65 (l.map cR) (i : Int) = cR l[i] := by
  unfold rd_T65
  rw [Int.toNat_natCast, List.getD_eq_getElem?_getD, List.getElem?_map, List.getElem?_eq_getElem h]
  rfl
theorem ev_segs (l : List SgI) (hl : l.length ≤ 1000000) : Ev (fun k => thwartlaw13_segs.f k l) (l.map cR) := by
  have step : ∀ (d i : Nat), i + d = l.length → Ev (fun k => thwartlaw13_segs.l0 k l ((l.take i).map cR) (i : Int)) (l.map cR) := by
    intro d
    induction d with
    | zero =>
      intro i hi
      have ht : l.take i = l := List.take_of_length_le (by omega)
      rw [ht]
      refine Ev.step (f := fun _ => some (l.map cR)) (fun k => ?_) (ev_some fun _ => rfl)
      rw [thwartlaw13_segs.l0, if_neg (by omega)]
    | succ d ih =>
      intro i hi
      have hlt : i < l.length := by omega
      have hx := rdS hlt
      have hi1 : wrap64 ((i : Int) + 1) = ((i + 1 : Nat) : Int) := by rw [wrap64_in (by omega) (by omega)]; omega
      have ih' := ih (i + 1) (by omega)
      rw [List.take_succ_eq_append_getElem hlt, List.map_append, List.map_singleton] at ih'
      refine Ev.step (f := fun k => thwartlaw13_segs.l0 k l ((l.take i).map cR ++ [cR l[i]]) ((i + 1 : Nat) : Int)) (fun k => ?_) ih'
      rw [thwartlaw13_segs.l0, if_pos (by omega), if_pos (by omega), if_pos (by rw [List.length_map, List.length_take]; omega), hx, hi1]
      rfl
  have h0 := step l.length 0 (by omega)
  unfold thwartlaw13_segs.f
  exact h0
theorem segs_calls (l : List SgI) (hl : l.length ≤ 1000000) (A : Option Addr) (c : Nat) (W : World) (hC : Kd.C k45 W A l.length l) (hc : l.length ≤ c) :
    Calls Tryz.prog 21 #[.slice A l.length c] W fun e w' => ∃ A' c', e = .returned (.slice A' l.length c') ∧ Kd.R k65 65 w' W.heap.size (fun _ => True) (.slice A' l.length c') (l.map cR) ∧ Below W.heap.size W w' := by
  obtain ⟨q, hq⟩ := Ev.rounds (ev_segs l hl)
  refine (thwartlaw13_segs.calls q A c l (l.map cR) W hC hc hq).mono ?_
  rintro e w' ⟨v1, rfl, hR, hb⟩
  obtain ⟨A', c', rfl⟩ := Kd.R_slice hR
  rw [List.length_map] at hR ⊢
  exact ⟨A', c', rfl, hR, hb⟩
theorem to_calls (v : Int) (l : List SgI) (hl : l.length ≤ 1000000) (A : Option Addr) (c : Nat) (W : World) (hC : Kd.C k45 W A l.length l) (hc : l.length ≤ c) :
    Calls Tryz.prog 11 #[.agg #[.int .i64 v, .slice A l.length c]] W fun e w' => ∃ A' c', e = .returned (.agg #[.int .i64 v, .slice A' l.length c']) ∧ Kd.R k65 65 w' W.heap.size (fun _ => True) (.slice A' l.length c') (l.map cR) ∧ Below W.heap.size W w' := by
  obtain ⟨q, hq⟩ := Ev.rounds (show Ev (fun k => thwartlaw13_to.f k v l) (v, l.map cR) by unfold thwartlaw13_to.f; exact Ev.bind (ev_segs l hl) (ev_some fun _ => rfl))
  refine (thwartlaw13_to.calls q v A c l v (l.map cR) W hC hc hq).mono ?_
  rintro e w' ⟨v1, rfl, hR, hb⟩
  obtain ⟨A', c', rfl⟩ := Kd.R_slice hR
  rw [List.length_map] at hR ⊢
  exact ⟨A', c', rfl, hR, hb⟩
theorem ev_has (v : Int) (l : List SgI) (hl : l.length ≤ 1000000) (n : Int) : Ev (fun k => thwartref13_has.f k v (l.map cR) n) (hasN n l) := by
  have step : ∀ (d i : Nat), i + d = l.length → hasN n (l.take i) = false → Ev (fun k => thwartref13_has.l0 k n (i : Int) v (l.map cR)) (hasN n l) := by
    intro d
    induction d with
    | zero =>
      intro i hi h0
      have ht : l.take i = l := List.take_of_length_le (by omega)
      rw [ht] at h0
      rw [h0]
      refine Ev.step (f := fun _ => some false) (fun k => ?_) (ev_some fun _ => rfl)
      rw [thwartref13_has.l0, if_neg (by rw [List.length_map]; omega)]
    | succ d ih =>
      intro i hi h0
      have hlt : i < l.length := by omega
      have hx := rdR13 hlt
      have hi1 : wrap64 ((i : Int) + 1) = ((i + 1 : Nat) : Int) := by rw [wrap64_in (by omega) (by omega)]; omega
      have hs := hasN_snoc n (l.take i) l[i]
      rw [← List.take_succ_eq_append_getElem hlt, h0, Bool.false_or] at hs
      have hc1 : (i : Int) < ((l.map cR).length : Int) := by rw [List.length_map]; omega
      by_cases he : l[i].f0 = n
      · have : hasN n l = true := hasN_take (i := i + 1) (by rw [hs, he]; simp)
        rw [this]
        refine Ev.step (f := fun _ => some true) (fun k => ?_) (ev_some fun _ => rfl)
        rw [thwartref13_has.l0, if_pos hc1, if_pos (by omega), hx, if_pos (show (cR l[i]).f0 = n from he)]
      · have ih' := ih (i + 1) (by omega) (by rw [hs]; simp [he])
        refine Ev.step (f := fun k => thwartref13_has.l0 k n ((i + 1 : Nat) : Int) v (l.map cR)) (fun k => ?_) ih'
        rw [thwartref13_has.l0, if_pos hc1, if_pos (by omega), hx, if_neg (show ¬ (cR l[i]).f0 = n from he), hi1]
  have h0 := step l.length 0 (by omega) rfl
  unfold thwartref13_has.f
  exact h0
theorem ev_Strings (a b : List ByteArray) (ha : a.length ≤ 1000000) : Ev (fun k => thwartref06_Strings.f k a b) (decide (a = b)) := by
  unfold thwartref06_Strings.f
  by_cases hn : a.length = b.length
  · refine ev_if_pos (by rw [hn]) ?_
    have step : ∀ (d i : Nat), i + d = a.length → a.take i = b.take i → Ev (fun k => thwartref06_Strings.l0 k a b (i : Int)) (decide (a = b)) := by
      intro d
      induction d with
      | zero =>
        intro i hi ht
        rw [List.take_of_length_le (by omega), List.take_of_length_le (by omega)] at ht
        refine Ev.step (f := fun _ => some true) (fun k => ?_) (ev_some fun _ => by rw [decide_eq_true ht])
        rw [thwartref06_Strings.l0, if_neg (by omega)]
      | succ d ih =>
        intro i hi ht
        have hlt : i < a.length := by omega
        have hlt' : i < b.length := by omega
        have hx : rdOf ByteArray.empty a (i : Int) = a[i] := by unfold rdOf; simp [List.getD_eq_getElem?_getD, List.getElem?_eq_getElem hlt]
        have hx' : rdOf ByteArray.empty b (i : Int) = b[i] := by unfold rdOf; simp [List.getD_eq_getElem?_getD, List.getElem?_eq_getElem hlt']
        have hi1 : wrap64 ((i : Int) + 1) = ((i + 1 : Nat) : Int) := by rw [wrap64_in (by omega) (by omega)]; omega
        by_cases he : a[i].toList = b[i].toList
        · have he' : a[i] = b[i] := WideShapes.bytes_inj (by rw [← Lib.toList_data, ← Lib.toList_data]; exact he)
          have ih' := ih (i + 1) (by omega) (by rw [List.take_succ_eq_append_getElem hlt, List.take_succ_eq_append_getElem hlt', ht, he'])
          refine Ev.step (f := fun k => thwartref06_Strings.l0 k a b ((i + 1 : Nat) : Int)) (fun k => ?_) ih'
          rw [thwartref06_Strings.l0, if_pos (by omega), if_pos (by omega), if_pos (by omega), hx, hx', if_pos he, hi1]
        · refine Ev.step (f := fun _ => some false) (fun k => ?_) (ev_some fun _ => by rw [decide_eq_false]; intro h; apply he; simp only [h])
          rw [thwartref06_Strings.l0, if_pos (by omega), if_pos (by omega), if_pos (by omega), hx, hx', if_neg he]
    exact step a.length 0 (by omega) rfl
  · refine ev_if_neg (by omega) (ev_some fun _ => by rw [decide_eq_false]; intro h; exact hn (by rw [h]))
/-! ### rising names -/
theorem snocRec {α : Type} {P : List α → Prop} (nil : P []) (append_singleton : ∀ l a, P l → P (l ++ [a])) (l : List α) : P l := by
  have h : ∀ r : List α, P r.reverse := fun r => by
    induction r with
    | nil => exact nil
    | cons a r ih => rw [List.reverse_cons]; exact append_singleton _ _ ih
  have := h l.reverse
  rwa [List.reverse_reverse] at this
theorem sorted_le (l : List ByteArray) : (sorted l).Pairwise fun a b => ¬ sl b a := by
  have tr : ∀ a b c : List UInt8, leB a b = true → leB b c = true → leB a c = true := fun a b c h1 h2 => by simp only [leB, decide_eq_true_eq] at *; exact List.le_trans h1 h2
  have tot : ∀ a b : List UInt8, (leB a b || leB b a) = true := fun a b => by simp only [leB, Bool.or_eq_true, decide_eq_true_eq]; exact List.le_total a b
  have h1 := List.pairwise_mergeSort tr tot (l.map fun s => s.data.toList)
  unfold sorted
  refine List.pairwise_map.2 (h1.imp fun {a b} h => ?_)
  simp only [leB, decide_eq_true_eq] at h
  intro h2
  have h3 : b < a := h2
  exact absurd h3 (List.not_lt.2 h)
theorem dd_mem : ∀ (l : List ByteArray) (x : ByteArray), x ∈ dd l ↔ x ∈ l := by
  intro l
  induction l using snocRec with
  | nil => intro x; rfl
  | append_singleton l a ih =>
    intro x
    rw [dd_snoc]
    unfold ddS
    split
    · rename_i h
      rw [dd_last] at h
      have ha : a ∈ l := List.mem_of_getLast? h
      rw [ih, List.mem_append, List.mem_singleton]
      exact ⟨Or.inl, fun h => h.elim id (fun e => e ▸ ha)⟩
    · rw [List.mem_append, List.mem_append, ih]
theorem dd_pw : ∀ (l : List ByteArray), (l.Pairwise fun a b => ¬ sl b a) → (dd l).Pairwise sl := by
  intro l
  induction l using snocRec with
  | nil => intro _; exact List.Pairwise.nil
  | append_singleton l a ih =>
    intro h
    obtain ⟨h1, _, h3⟩ := List.pairwise_append.1 h
    rw [dd_snoc]
    unfold ddS
    split
    · exact ih h1
    · rename_i hne
      rw [dd_last] at hne
      refine List.pairwise_append.2 ⟨ih h1, List.pairwise_singleton _ _, fun y hy b hb => ?_⟩
      rw [List.mem_singleton.1 hb]
      have hyl := (dd_mem l y).1 hy
      have hle : ¬ sl a y := h3 y hyl a (List.mem_singleton.2 rfl)
      refine sl_tri a y hle (fun e => hne ?_)
      subst e
      have hl0 : l ≠ [] := fun e => by rw [e] at hyl; cases hyl
      have hz := List.getLast?_eq_some_getLast hl0
      rw [hz]
      congr 1
      have hzl := List.getLast_mem hl0
      have hz1 : ¬ sl a (l.getLast hl0) := h3 _ hzl a (List.mem_singleton.2 rfl)
      have hz2 : ¬ sl (l.getLast hl0) a := by
        have hsp := List.dropLast_concat_getLast hl0
        rw [← hsp] at h1 hyl
        rcases List.mem_append.1 hyl with h5 | h5
        · exact (List.pairwise_append.1 h1).2.2 a h5 _ (List.mem_singleton.2 rfl)
        · rw [← List.mem_singleton.1 h5]; exact sl_irrefl _
      by_cases e : l.getLast hl0 = a
      · exact e
      · exact absurd (sl_tri a _ hz1 (fun e' => e e'.symm)) hz2
theorem pw_nodup {l : List ByteArray} (h : l.Pairwise sl) : l.Nodup := (show List.Pairwise (fun a b => a ≠ b) l from h.imp fun {a b} hab e => by subst e; exact sl_irrefl _ hab)
theorem pw_ext {l l' : List ByteArray} (h : l.Pairwise sl) (h' : l'.Pairwise sl) (hm : ∀ x, x ∈ l ↔ x ∈ l') : l = l' :=
  pw_unique ((List.perm_ext_iff_of_nodup (pw_nodup h) (pw_nodup h')).2 hm) h h'
open Classical in
/-- A name is laid into a rising row, if it isn't there. -/
noncomputable def insU (X : List ByteArray) (k : ByteArray) : List ByteArray := if k ∈ X then X else X.takeWhile (fun s => slB s k) ++ k :: X.dropWhile (fun s => slB s k)
noncomputable def wstep (ver : Int) (segs : List SgI) (X : List ByteArray) (k : ByteArray) : List ByteArray := if needB ver segs k = true then X else insU X k
noncomputable def wasteR (ver : Int) (segs : List SgI) (xs : List ByteArray) : List ByteArray := xs.foldl (wstep ver segs) []
theorem insU_pw {X : List ByteArray} (h : X.Pairwise sl) (k : ByteArray) : (insU X k).Pairwise sl := by
  unfold insU
  split
  · exact h
  · rename_i hk; exact ins_pw h hk
theorem insU_mem (X : List ByteArray) (k x : ByteArray) : x ∈ insU X k ↔ x ∈ X ∨ x = k := by
  unfold insU
  split
  · rename_i hk
    exact ⟨Or.inl, fun h => h.elim id (fun e => e ▸ hk)⟩
  · have e : x ∈ X ↔ x ∈ X.takeWhile (fun s => slB s k) ∨ x ∈ X.dropWhile (fun s => slB s k) := by
      rw [← List.mem_append, List.takeWhile_append_dropWhile]
    rw [List.mem_append, List.mem_cons, e]
    constructor
    · rintro (h | h | h)
      · exact Or.inl (Or.inl h)
      · exact Or.inr h
      · exact Or.inl (Or.inr h)
    · rintro ((h | h) | h)
      · exact Or.inl h
      · exact Or.inr (Or.inr h)
      · exact Or.inr (Or.inl h)
theorem wasteR_next (ver : Int) (segs : List SgI) (xs : List ByteArray) (i : Nat) (hi : i < xs.length) : wasteR ver segs (xs.take (i + 1)) = wstep ver segs (wasteR ver segs (xs.take i)) xs[i] := by
  unfold wasteR
  rw [List.take_succ_eq_append_getElem hi, List.foldl_append]
  rfl
theorem insU_len (X : List ByteArray) (k : ByteArray) : (insU X k).length ≤ X.length + 1 := by
  unfold insU
  split
  · omega
  · have h := congrArg List.length (List.takeWhile_append_dropWhile (p := fun s => slB s k) (l := X))
    simp only [List.length_append, List.length_cons] at h ⊢
    omega
theorem wasteR_all (ver : Int) (segs : List SgI) : ∀ (xs : List ByteArray), (wasteR ver segs xs).Pairwise sl ∧ (wasteR ver segs xs).length ≤ xs.length ∧ ∀ x, x ∈ wasteR ver segs xs ↔ x ∈ xs.filter fun x => !needB ver segs x := by
  intro xs
  induction xs using snocRec with
  | nil => exact ⟨List.Pairwise.nil, Nat.le_refl _, fun x => Iff.rfl⟩
  | append_singleton l a ih =>
    obtain ⟨h1, h2, h3⟩ := ih
    have e : wasteR ver segs (l ++ [a]) = wstep ver segs (wasteR ver segs l) a := by unfold wasteR; rw [List.foldl_append]; rfl
    rw [e]
    unfold wstep
    rw [List.filter_append]
    cases hn : needB ver segs a with
    | true =>
      rw [if_pos rfl]
      refine ⟨h1, by simp; omega, fun x => ?_⟩
      rw [h3]
      simp [hn]
    | false =>
      rw [if_neg (by decide)]
      refine ⟨insU_pw h1 a, by have := insU_len (wasteR ver segs l) a; simp; omega, fun x => ?_⟩
      rw [insU_mem, h3]
      simp [hn]
theorem waste_eq (ver : Int) (segs : List SgI) (xs : List ByteArray) : wasteL ver segs xs = wasteR ver segs xs := by
  obtain ⟨h1, h2, h3⟩ := wasteR_all ver segs xs
  refine pw_ext (dd_pw _ (sorted_le _)) h1 fun x => ?_
  rw [h3]
  unfold wasteL
  rw [dd_mem, (sorted_perm' _).mem_iff]
theorem insU_at (k : ByteArray) (X : List ByteArray) (i : Nat) (h1 : ∀ j (h : j < X.length), j < i → slB X[j] k = true) (h2 : ∀ h : i < X.length, slB X[i] k = false ∧ X[i] ≠ k) (hi : i ≤ X.length) (hp : X.Pairwise sl) : X.take i ++ [k] ++ X.drop i = insU X k := by
  have hk : k ∉ X := fun hm => by
    obtain ⟨j, hj, e⟩ := List.mem_iff_getElem.1 hm
    rcases Nat.lt_or_ge j i with h | h
    · have := (slB_eq _ _).1 (h1 j hj h)
      rw [e] at this
      exact sl_irrefl _ this
    · obtain ⟨h3, h4⟩ := h2 (by omega)
      rcases Nat.lt_or_eq_of_le h with h | h
      · have h5 : sl X[i] X[j] := List.pairwise_iff_getElem.1 hp i j (by omega) hj h
        rw [e] at h5
        rw [(slB_eq _ _).2 h5] at h3
        cases h3
      · subst h; exact h4 e
  unfold insU
  rw [if_neg hk]
  have : ∀ (X : List ByteArray) (i : Nat), (∀ j (h : j < X.length), j < i → slB X[j] k = true) → (∀ h : i < X.length, slB X[i] k = false) → i ≤ X.length → X.take i ++ [k] ++ X.drop i = X.takeWhile (fun s => slB s k) ++ k :: X.dropWhile (fun s => slB s k) := by
    intro X
    induction X with
    | nil => intro i _ _ h; simp at h; subst h; rfl
    | cons y X ih =>
      intro i hj h hi
      cases i with
      | zero =>
        have h0 : slB y k = false := h (by simp)
        rw [List.takeWhile_cons, if_neg (by rw [h0]; decide), List.dropWhile_cons, if_neg (by rw [h0]; decide)]
        rfl
      | succ i =>
        have h0 : slB y k = true := hj 0 (by simp) (by omega)
        have ih := ih i (fun j hl hlt => hj (j + 1) (by simpa using hl) (by omega)) (fun hl => h (by simpa using hl)) (by simpa using hi)
        rw [List.takeWhile_cons, if_pos h0, List.dropWhile_cons, if_pos h0, List.cons_append, ← ih]
        rfl
  exact this X i h1 (fun h => (h2 h).1) hi
theorem insU_has (k : ByteArray) (X : List ByteArray) (i : Nat) (h : i < X.length) (he : X[i] = k) : insU X k = X := by
  unfold insU
  rw [if_pos (by rw [← he]; exact List.getElem_mem h)]
end Go.Proofs.YtlnbekaldemebaaGreatDoor.Thw
/-! ## Layer 13 (publish): the document's Waste; the law PublishWaste (printed by gen13q.py). -/
namespace Go.Proofs.YtlnbekaldemebaaGreatDoor.Thw
open Go Go.RowKit Go.Maps Go.Proofs.YtlnbekaldemebaaGreatDoor.Print Go.Proofs.YtlnbekaldemebaaGreatDoorW.PrintWords Go.Proofs.YtlnbekaldemebaaGreatDoorW.PrintLast Go.Proofs.YtlnbekaldemebaaGreatDoorW.PrintMore
set_option linter.unusedVariables false
set_option linter.unusedSimpArgs false
theorem cut_twoS {P : Program} {α : Type} {d : Kd α} {w : World} {A : Option Addr} {L : List α} {c : Nat} (t e : TypeId) {z : Value} {bytes : Nat} (ht : P.underlying t = some (.slice e)) (hinfo : (P.info? e).map (fun i => (i.zero, i.size, i.bytes)) = some (some z, d.sz, bytes))
    (h : d.C w A L.length L) (hc : L.length ≤ c) (i : Nat) (hi : i ≤ L.length) :
    ∃ A1 c1 A2 c2, (∀ W : World, (Instr.slice t (.slice A L.length c) none (some (.int .i64 (i : Int))) none).run P W = .ok (.slice A1 (L.take i).length c1) W) ∧ d.C w A1 (L.take i).length (L.take i) ∧
      (∀ W : World, (Instr.slice t (.slice A L.length c) (some (.int .i64 (i : Int))) none none).run P W = .ok (.slice A2 (L.drop i).length c2) W) ∧ d.C w A2 (L.drop i).length (L.drop i) := by
  obtain ⟨i0, hi0, hzz⟩ := Option.map_eq_some_iff.1 hinfo
  simp only [Prod.mk.injEq] at hzz
  obtain ⟨hz0, hz1, hz2⟩ := hzz
  have h1 := cut_to (P := P) t e .i64 ht hi0 A L.length c (i : Int) (by omega) (by omega) hc
  have h2 := cut_from (P := P) t e .i64 ht hi0 d.sz hz1 A L.length c (i : Int) (by omega) (by omega)
  have e1 : (L.take i).length = (i : Int).toNat := by rw [List.length_take]; omega
  have e2 : (L.drop i).length = L.length - (i : Int).toNat := by rw [List.length_drop]; omega
  refine ⟨A, c, (if c = i then A else A.map (·.add (i * d.sz))), c - i, ?_, Kd.C_take h hi, ?_, Kd.C_drop h hi hc⟩
  · rw [e1]; exact h1
  · rw [e2]; exact h2
theorem str_KM {w : World} {base : Nat} {ok : Nat → Prop} {x : ByteArray} {cs : List Value} (h : Kd.string.K w x cs) : Kd.string.M w base ok x cs := h
theorem rep_one {w : World} {b : Nat} {ok : Nat → Prop} (k : ByteArray) : Reps (Kd.string.M w b ok) Kd.string.sz [k] [.string k] := Reps.front (show Kd.string.M w b ok k [.string k] from rfl) rfl (Reps.none _ _) rfl
theorem has_calls (v : Int) (l : List SgI) (hl : l.length ≤ 1000000) (n : Int) (A : Option Addr) (c : Nat) (W : World) (hC : Kd.C k65 W A l.length (l.map cR)) (hc : l.length ≤ c) :
    Calls Tryz.prog 40 #[.agg #[.int .i64 v, .slice A l.length c], .int .i64 n] W fun e w' => e = .returned (.bool (hasN n l)) ∧ Below W.heap.size W w' := by
  obtain ⟨q, hq⟩ := Ev.rounds (ev_has v l hl n)
  have hm : (l.map cR).length = l.length := List.length_map _
  have := thwartref13_has.calls q v A c (l.map cR) n _ W (by rw [hm]; exact hC) (by rw [hm]; exact hc) hq
  rwa [hm] at this
theorem wasteR_ok (ver : Int) (segs : List SgI) (xs : List ByteArray) (i : Nat) (hi : i ≤ xs.length) : (wasteR ver segs (xs.take i)).Pairwise sl ∧ (wasteR ver segs (xs.take i)).length ≤ i := by
  obtain ⟨h1, h2, _⟩ := wasteR_all ver segs (xs.take i)
  rw [List.length_take] at h2
  exact ⟨h1, by omega⟩
def wst12T : Bool × List (List Nat × List Nat) := (true, [([], []), ([], []), ([], []), ([1, 2], [1, 2]), ([0, 3], [0, 3]), ([], []), ([], []), ([5, 6], [5, 6]), ([7], [7]), ([8], [8]), ([4, 9, 4], [4, 9]), ([], []), ([], []), ([11, 12], [11, 12]), ([10, 13, 10], [10, 13]), ([14, 14, 0, 1, 2, 3, 4, 5, 6, 7, 8, 9, 10, 11, 12, 13, 14], [1, 11, 14])])
def wst12B : List Nat := [0, 0, 0, 6, 15, 0, 0, 96, 224, 480, 1023, 0, 0, 6144, 16383, 32767]
theorem wst12tab : rtab .any (opsOf Tryz.f10 12) = wst12T := by kernel_rfl
theorem wst12bits : waitsOk wst12T.2 wst12B = true := by kernel_rfl
set_option maxHeartbeats 25600000 in
set_option maxRecDepth 100000 in
theorem ref_Waste.calls (ver : Int) (A : Option Addr) (c : Nat) (segs : List SgI) (An : Option Addr) (cn : Nat) (xs : List ByteArray) (w : World) (hc : Kd.C k65 w A segs.length (segs.map cR)) (hcc : segs.length ≤ c) (hn : segs.length ≤ 1000000) (hx : Kd.string.C w An xs.length xs) (hxc : xs.length ≤ cn) (hxn : xs.length ≤ 1000) (hxs : ∀ x ∈ xs, x.size ≤ 1000) :
    Calls Tryz.prog 10 #[.slice An xs.length cn, .agg #[.int .i64 ver, .slice A segs.length c]] w fun e w' => ∃ v, e = .returned v ∧ Kd.string.R 9 w' w.heap.size (fun _ => True) v (wasteR ver segs xs) ∧ Below w.heap.size w w' := by
  have HC := Aside0.mk hc
  have HX := Aside0.mk hx
  have HXS := Aside0.mk hxs
  have HXN := Aside0.mk hxn
  have HSN := Aside0.mk hn
  have HCC := Aside0.mk hcc
  clear hc hx hxs hxn hn hcc
  go_enter Tryz.func10, Tryz.ntmps10
  go_upto_region 1 with (fail)
  obtain ⟨w1, hw1⟩ : ∃ w1, w.alloc (.cells #[.int .i64 ver, .slice A segs.length c] 32) = w1 := ⟨_, rfl⟩
  have XM := Aside0.mk (show w1.heap[w.heap.size]? = some (.cells #[.int .i64 ver, .slice A segs.length c] 32) by rw [← hw1]; exact blk_new _ _)
  have B1 := Aside0.mk (show Below w.heap.size w w1 by rw [← hw1]; exact (Below.refl _ w).alloc (Nat.le_refl _) _)
  rw [hw1]
  obtain ⟨gm, hgm⟩ : ∃ g, w.heap.size = g := ⟨_, rfl⟩
  have XM := Aside0.mk (show w1.heap[gm]? = some (.cells #[.int .i64 ver, .slice A segs.length c] 32) by rw [← hgm]; exact XM.out)
  try rw [hgm]
  clear hw1 hgm
  go_wp2_with fail
  go_loopw [5, 6] (fun v5 v6 wr => ∃ i : Nat, i ≤ xs.length ∧ v6 = .int .i64 i ∧ Aside0 (Kd.R Kd.string 9 wr w1.heap.size (fun _ => True) v5 (wasteR ver segs (xs.take i))) ∧ Aside0 (Below w1.heap.size w1 wr)) (fun _ v6 _ => xs.length - (intOf v6).toNat)
  case atStart => exact ⟨0, by omega, rfl, ⟨Kd.R_nil _ _ _ _ _⟩, ⟨Below.refl _ _⟩⟩
  case round =>
    obtain ⟨i, hi, rfl, HR, HB⟩ := hrel
    obtain ⟨A5, c5, rfl⟩ := Kd.R_slice HR.out
    have hxx := HXN.out
    by_cases hlt : i < xs.length
    · have d1 : decide ((i : Int) < (xs.length : Int)) = true := decide_eq_true (by omega)
      have i0 : 0 ≤ (i : Int) := by omega
      have i1 : (i : Int) < (xs.length : Int) := by omega
      have HNX := Aside0.mk (wasteR_next ver segs xs i hlt)
      have HPW := Aside0.mk (wasteR_ok ver segs xs i hi)
      obtain ⟨adn, rfl, n0⟩ := C_strAt (Kd.C_below HX.out (B1.out.trans (HB.out.mono B1.out.size))) hlt
      have HS := Aside0.mk (HXS.out xs[i] (List.getElem_mem hlt))
      have XN := Aside0.mk (fun W (hW : Below w1.heap.size w1 W) => by
        have := C_strAt (Kd.C_below HX.out (B1.out.trans (hW.mono B1.out.size))) hlt
        obtain ⟨ad', e, x⟩ := this
        cases e
        exact x : ∀ W, Below w1.heap.size w1 W → W.cell? (adn.add i) = some (.string xs[i]))
      generalize xs[i] = s at HNX n0 HS XN
      generalize wasteR ver segs (xs.take i) = X at HR HNX HPW ⊢
      obtain ⟨⟨vv, is⟩, hvO, hev⟩ := ev_rVersion s HS.out
      obtain ⟨q1, hq1⟩ := Ev.rounds hev
      obtain ⟨nn, hnO, hev2⟩ := ev_rNumber s HS.out
      obtain ⟨q2, hq2⟩ := Ev.rounds hev2
      have HNK := Aside0.mk (need_keep (ver := ver) (segs := segs) hvO hnO)
      have HVV := Aside0.mk (show 0 ≤ vv ∧ vv ≤ 999999 by
        rcases hvO with ⟨m, hm, e⟩ | ⟨_, e⟩
        · injection e with e _; have := hm.2.1; omega
        · injection e with e _; omega)
      have HQ1 := Aside0.mk hq1
      have HQ2 := Aside0.mk hq2
      clear hev hev2 hq1 hq2 hvO hnO
      go_wp2_with fail
      refine (thwartref12_Version.calls q1 s vv is wr HQ1.out).mono ?_
      rintro e w2 ⟨rfl, b2⟩
      have B2 := Aside0.mk (HB.out.trans (b2.mono HB.out.size))
      have R2 := Aside0.mk (Kd.R_below HR.out b2)
      have n0 := XN.out w2 B2.out
      clear b2 HR HB
      go_wp2_with fail
      refine (thwartref13_number.calls q2 s nn w2 HQ2.out).mono ?_
      rintro e w3 ⟨rfl, b3⟩
      have B3 := Aside0.mk (B2.out.trans (b3.mono B2.out.size))
      have R3 := Aside0.mk (Kd.R_below R2.out b3)
      clear b3 R2 B2 n0
      go_upto_region 7 with (fail)
      go_cut [49] from 11 to 96 (fun s49 wx => s49 = .bool (needB ver segs s) ∧ Aside0 (Below w1.heap.size w1 wx) ∧ Aside0 (Kd.R Kd.string 9 wx w1.heap.size (fun _ => True) (.slice A5 X.length c5) X))
      case first =>
        have hwv : IntKind.i64.wrap (vv + 1) = vv + 1 := IntWalk.i64_in _ (by have := HVV.out; omega)
        have hwv' : wrap64 (vv + 1) = vv + 1 := wrap64_in (by have := HVV.out; omega) (by have := HVV.out; omega)
        have HK := Aside0.mk (show needB ver segs s = (!(is && decide (vv + 1 < ver)) && !(decide (0 ≤ nn) && !hasN nn segs)) by rw [HNK.out]; unfold keepB; rw [hwv'])
        obtain ⟨m0, m1, mf⟩ := cells2m (blk_below XM.out B3.out)
        clear hwv'
        cases is with
        | true =>
          by_cases hv : vv + 1 < ver
          · have dv : decide (vv + 1 < ver) = true := decide_eq_true hv
            have HK2 := Aside0.mk (show needB ver segs s = false by rw [HK.out, dv]; rfl)
            go_wp2_with fail
            go_meet
            case rel => exact ⟨by rw [HK2.out], B3, R3⟩
          · have dv : decide (vv + 1 < ver) = false := decide_eq_false hv
            by_cases hn0 : 0 ≤ nn
            · have dn : decide (0 ≤ nn) = true := decide_eq_true hn0
              go_wp2_with fail
              refine (has_calls ver segs HSN.out nn A c w3 (Kd.C_below HC.out (B1.out.trans (B3.out.mono B1.out.size))) HCC.out).mono ?_
              rintro e w4 ⟨rfl, b4⟩
              have B4 := Aside0.mk (B3.out.trans (b4.mono B3.out.size))
              have R4 := Aside0.mk (Kd.R_below R3.out b4)
              have HK2 := Aside0.mk (show needB ver segs s = hasN nn segs by rw [HK.out, dv, dn]; simp)
              generalize hasN nn segs = hb at HK2 ⊢
              clear b4 hv dv
              go_wp2_with fail
              go_meet
              case rel => exact ⟨by rw [HK2.out]; try simp, B4, R4⟩
            · have dn : decide (0 ≤ nn) = false := decide_eq_false hn0
              have HK2 := Aside0.mk (show needB ver segs s = true by rw [HK.out, dv, dn]; rfl)
              go_wp2_with fail
              go_meet
              case rel => exact ⟨by rw [HK2.out], B3, R3⟩
        | false =>
          by_cases hn0 : 0 ≤ nn
          · have dn : decide (0 ≤ nn) = true := decide_eq_true hn0
            go_wp2_with fail
            refine (has_calls ver segs HSN.out nn A c w3 (Kd.C_below HC.out (B1.out.trans (B3.out.mono B1.out.size))) HCC.out).mono ?_
            rintro e w4 ⟨rfl, b4⟩
            have B4 := Aside0.mk (B3.out.trans (b4.mono B3.out.size))
            have R4 := Aside0.mk (Kd.R_below R3.out b4)
            have HK2 := Aside0.mk (show needB ver segs s = hasN nn segs by rw [HK.out, dn]; simp)
            generalize hasN nn segs = hb at HK2 ⊢
            clear b4
            go_wp2_with fail
            go_meet
            case rel => exact ⟨by rw [HK2.out]; try simp, B4, R4⟩
          · have dn : decide (0 ≤ nn) = false := decide_eq_false hn0
            have HK2 := Aside0.mk (show needB ver segs s = true by rw [HK.out, dn]; rfl)
            go_wp2_with fail
            go_meet
            case rel => exact ⟨by rw [HK2.out], B3, R3⟩
      case rest =>
        obtain ⟨rfl, BV, RV⟩ := hcut
        have HNX2 := Aside0.mk (show wasteR ver segs (xs.take (i + 1)) = if needB ver segs s = true then X else insU X s from HNX.out)
        clear HNX HNK
        generalize needB ver segs s = nb at HNX2 ⊢
        cases nb with
        | true =>
          go_wp2_with fail
          go_roundw
          case rel => exact ⟨i + 1, by omega, by go_num, ⟨by rw [HNX2.out]; exact RV.out⟩, BV⟩
          case measure => simp [intOf]; omega
        | false =>
          have HN2 := Aside0.mk (show wasteR ver segs (xs.take (i + 1)) = insU X s from HNX2.out)
          clear HNX2
          have HXL := Aside0.mk (show X.length ≤ 1000 by have := HPW.out.2; have := HXN.out; omega)
          rename World => wv
          go_wp2_with fail
          go_loopw [10] (fun v10 wx => ∃ a : Nat, a ≤ X.length ∧ v10 = .int .i64 a ∧ Aside0 (∀ j (h : j < X.length), j < a → slB X[j] s = true) ∧ Aside0 (Below wv.heap.size wv wx)) (fun v10 _ => X.length - (intOf v10).toNat)
          case atStart => exact ⟨0, by omega, rfl, ⟨fun j _ hj => by omega⟩, ⟨Below.refl _ _⟩⟩
          case round =>
            obtain ⟨a, ha, rfl, HA, HBX⟩ := hrel
            have hxl := HXL.out
            have n0 := XN.out _ (BV.out.trans (HBX.out.mono BV.out.size))
            by_cases hla : a < X.length
            · have d3 : decide ((a : Int) < (X.length : Int)) = true := decide_eq_true (by omega)
              have a0 : 0 ≤ (a : Int) := by omega
              have a1 : (a : Int) < (X.length : Int) := by omega
              obtain ⟨ad, rfl, g0⟩ := C_strAt (Kd.C_below (Kd.R_reads' RV.out).2.2 HBX.out) hla
              have HY := Aside0.mk (show slB X[a] s = Op.bytesLess (X[a]).toList s.toList from rfl)
              have HYC := Aside0.mk (fun W (hW : Below wv.heap.size wv W) => by
                obtain ⟨ad', e, x⟩ := C_strAt (Kd.C_below (Kd.R_reads' RV.out).2.2 hW) hla
                cases e
                exact x : ∀ W, Below wv.heap.size wv W → W.cell? (ad.add a) = some (.string X[a]))
              generalize hy : X[a] = y at g0 HY HYC
              cases hbl : Op.bytesLess y.toList s.toList with
              | true =>
                have HA2 := Aside0.mk (show ∀ j (h : j < X.length), j < a + 1 → slB X[j] s = true from fun j h hj => by
                  rcases Nat.lt_succ_iff_lt_or_eq.1 hj with h1 | rfl
                  · exact HA.out j h h1
                  · rw [hy, HY.out]; exact hbl)
                clear hy
                go_wp2
                repeat (go_quiet (fail); try go_wp2)
                go_roundw
                case rel => exact ⟨a + 1, by omega, by go_num, HA2, ⟨by repeat (first | (with_reducible first | exact HBX.out | apply below_alloc | apply pw_below_drewN | apply below_drew1) | exact HBX.out)⟩⟩
                case measure => simp [intOf]; omega
              | false =>
                by_cases he : y = s
                · have HI := Aside0.mk (insU_has s X a hla (by rw [hy, he]))
                  subst he
                  have hq : (y.toList == y.toList) = true := beq_self_eq_true _
                  clear hy
                  go_wp2
                  repeat (go_quiet (fail); try go_wp2)
                  go_roundw
                  case rel => exact ⟨i + 1, by omega, by go_num, ⟨by rw [HN2.out, HI.out]; exact Kd.R_below RV.out (by repeat (first | (with_reducible first | exact HBX.out | apply below_alloc | apply pw_below_drewN | apply below_drew1) | exact HBX.out))⟩, ⟨by exact BV.out.trans ((show Below wv.heap.size wv _ by repeat (first | (with_reducible first | exact HBX.out | apply below_alloc | apply pw_below_drewN | apply below_drew1) | exact HBX.out)).mono BV.out.size)⟩⟩
                  case measure => simp [intOf]; omega
                · have hq : (y.toList == s.toList) = false := beq_eq_false_iff_ne.2 (fun e => he (WideShapes.bytes_inj (by rw [← Lib.toList_data, ← Lib.toList_data]; exact e)))
                  have HI := Aside0.mk (insU_at s X a HA.out (fun _ => ⟨by rw [hy, HY.out]; exact hbl, by rw [hy]; exact he⟩) ha HPW.out.1)
                  clear hy
                  go_wp2
                  repeat (go_quiet (fail); try go_wp2)
                  clear n0
                  have hC7 := (Kd.R_reads' RV.out)
                  obtain ⟨A1, c1, A2, c2, hcut1, hCT, hcut2, hCD⟩ := cut_twoS (P := Tryz.prog) 22 9 Tryz.underlying22 infoStr hC7.2.2 hC7.2.1 a ha
                  obtain ⟨n1, hn1⟩ : ∃ n_ : Nat, (X.take a).length = n_ := ⟨_, rfl⟩
                  obtain ⟨n2, hn2⟩ : ∃ n_ : Nat, (X.drop a).length = n_ := ⟨_, rfl⟩
                  rw [hn1] at hcut1 hCT
                  rw [hn2] at hcut2 hCD
                  have HN1 := Aside0.mk (show n1 ≤ 1000000 by rw [← hn1, List.length_take]; omega)
                  have HNN := Aside0.mk (show n2 ≤ 1000000 by rw [← hn2, List.length_drop]; omega)
                  clear hn1 hn2
                  have CT := Aside0.mk hCT
                  have CD := Aside0.mk hCD
                  clear hCT hCD hC7
                  refine region_draw (n := 16) (S := fun W => Below wv.heap.size wv W) (ds := []) #[false, false, false, false, false, false, false, false, false, false, false, false, false, false, false, false] (by kernel_rfl) rfl rfl (fun W => Below wv.heap.size wv W) (by repeat (first | (with_reducible first | exact HBX.out | apply below_alloc | apply pw_below_drewN | apply below_drew1) | exact HBX.out)) (fun W h => h) ?_
                  rintro ws hws
                  refine with_tabW wst12tab wst12bits (fun HT_ HW_ => ?_)
                  have BS := Aside0.mk hws
                  clear hws
                  refine pure_ (i := 1) (N := some 83) (v := ?_) (a' := ?_) #[false, true, false, false, false, false, false, false, false, false, false, false, false, false, false, false] rfl rfl (any_of HT_.out (by kernel_rfl)) (fun _ _ _ h => h) (Or.inl ⟨by rfl, ?_⟩) ?_ ?_
                  rotate_left
                  · intro w'
                    go_simp
                    with_reducible rfl
                  rotate_left
                  · simp only [Act.put, List.setIfInBounds_toArray, List.set_cons_zero, List.set_cons_succ, i64_w, i32_w]
                    rfl
                  refine pure_ (i := 2) (N := some 84) (v := ?_) (a' := ?_) #[false, true, true, false, false, false, false, false, false, false, false, false, false, false, false, false] rfl rfl (any_of HT_.out (by kernel_rfl)) (fun _ _ _ h => h) (Or.inl ⟨by rfl, ?_⟩) ?_ ?_
                  rotate_left
                  · intro w'
                    go_simp
                    with_reducible rfl
                  rotate_left
                  · simp only [Act.put, List.setIfInBounds_toArray, List.set_cons_zero, List.set_cons_succ, i64_w, i32_w]
                    rfl
                  refine pure_ (i := 3) (N := some 85) (v := ?_) (a' := ?_) #[false, true, true, true, false, false, false, false, false, false, false, false, false, false, false, false] rfl rfl (any_of HT_.out (by kernel_rfl)) (fun _ _ _ h => h) (Or.inl ⟨by rfl, ?_⟩) ?_ ?_
                  rotate_left
                  · intro w'
                    go_simp
                    with_reducible rfl
                  rotate_left
                  · simp only [Act.put, List.setIfInBounds_toArray, List.set_cons_zero, List.set_cons_succ, i64_w, i32_w]
                    rfl
                  refine pure_ (i := 5) (N := some 87) (v := ?_) (a' := ?_) #[false, true, true, true, false, true, false, false, false, false, false, false, false, false, false, false] rfl rfl (any_of HT_.out (by kernel_rfl)) (fun _ _ _ h => h) (Or.inl ⟨by rfl, ?_⟩) ?_ ?_
                  rotate_left
                  · intro w'
                    go_simp
                    with_reducible rfl
                  rotate_left
                  · simp only [Act.put, List.setIfInBounds_toArray, List.set_cons_zero, List.set_cons_succ, i64_w, i32_w]
                    rfl
                  refine pure_ (i := 6) (N := some 88) (v := ?_) (a' := ?_) #[false, true, true, true, false, true, true, false, false, false, false, false, false, false, false, false] rfl rfl (any_of HT_.out (by kernel_rfl)) (fun _ _ _ h => h) (Or.inl ⟨by rfl, ?_⟩) ?_ ?_
                  rotate_left
                  · intro w'
                    go_simp
                    with_reducible rfl
                  rotate_left
                  · simp only [Act.put, List.setIfInBounds_toArray, List.set_cons_zero, List.set_cons_succ, i64_w, i32_w]
                    rfl
                  refine pure_ (i := 7) (N := some 89) (v := ?_) (a' := ?_) #[false, true, true, true, false, true, true, true, false, false, false, false, false, false, false, false] rfl rfl (any_of HT_.out (by kernel_rfl)) (fun _ _ _ h => h) (Or.inl ⟨by rfl, ?_⟩) ?_ ?_
                  rotate_left
                  · intro w'
                    go_simp
                    with_reducible rfl
                  rotate_left
                  · simp only [Act.put, List.setIfInBounds_toArray, List.set_cons_zero, List.set_cons_succ, i64_w, i32_w]
                    rfl
                  refine take_ (i := 8) (N := some 90) (v := ?_) (a' := ?_) #[false, true, true, true, false, true, true, true, true, false, false, false, false, false, false, false] rfl rfl (take_ofW HT_.out HW_.out (by kernel_rfl)) (fun _ _ _ h => h) (Or.inl ⟨by rfl, ?_⟩) BS.out ?_ ?_
                  rotate_left
                  · intro w' hW
                    have n0 := XN.out w' (BV.out.trans (hW.mono BV.out.size))
                    go_simp
                    with_reducible rfl
                  rotate_left
                  · simp only [Act.put, List.setIfInBounds_toArray, List.set_cons_zero, List.set_cons_succ, i64_w, i32_w]
                    rfl
                  refine pure_ (i := 11) (N := some 93) (v := ?_) (a' := ?_) #[false, true, true, true, false, true, true, true, true, false, false, true, false, false, false, false] rfl rfl (any_of HT_.out (by kernel_rfl)) (fun _ _ _ h => h) (Or.inl ⟨by rfl, ?_⟩) ?_ ?_
                  rotate_left
                  · intro w'
                    go_simp
                    with_reducible rfl
                  rotate_left
                  · simp only [Act.put, List.setIfInBounds_toArray, List.set_cons_zero, List.set_cons_succ, i64_w, i32_w]
                    rfl
                  refine pure_ (i := 12) (N := some 94) (v := ?_) (a' := ?_) #[false, true, true, true, false, true, true, true, true, false, false, true, true, false, false, false] rfl rfl (any_of HT_.out (by kernel_rfl)) (fun _ _ _ h => h) (Or.inl ⟨by rfl, ?_⟩) ?_ ?_
                  rotate_left
                  · intro w'
                    go_simp
                    with_reducible rfl
                  rotate_left
                  · simp only [Act.put, List.setIfInBounds_toArray, List.set_cons_zero, List.set_cons_succ, i64_w, i32_w]
                    rfl
                  refine pure_ (i := 13) (N := some 95) (v := ?_) (a' := ?_) #[false, true, true, true, false, true, true, true, true, false, false, true, true, true, false, false] rfl rfl (any_of HT_.out (by kernel_rfl)) (fun _ _ _ h => h) (Or.inl ⟨by rfl, ?_⟩) ?_ ?_
                  rotate_left
                  · intro w'
                    go_simp
                    with_reducible rfl
                  rotate_left
                  · simp only [Act.put, List.setIfInBounds_toArray, List.set_cons_zero, List.set_cons_succ, i64_w, i32_w]
                    rfl
                  refine join_ (σ := Value × Value × Value) 3 #[true, true, true, true, true, true, true, true, true, true, false, true, true, true, false, false] (fun s_ => [(82, s_.1), (86, s_.2.1), (91, s_.2.2)]) (fun s_ w' => Aside0 (Below wv.heap.size wv w') ∧ Aside0 (Kd.string.R 9 w' wv.heap.size (fun _ => True) s_.2.1 (X.take a)) ∧ ∃ A_ c_, s_.2.2 = .slice A_ 1 c_ ∧ Aside0 (Kd.string.C w' A_ 1 [s])) ?_ ?_
                  rotate_left
                  · intro hCont
                    refine two_ (i := 0) (j := 9) (Ni := some 82) (Nj := some 91) #[true, true, true, true, false, true, true, true, true, false, false, true, true, true, false, false] #[false, true, true, true, false, true, true, true, true, true, false, true, true, true, false, false] rfl rfl rfl rfl (two_of HT_.out (by kernel_rfl)) (by decide) (by decide) (fun K hK => ?_) (fun K hK => ?_)
                    · skip
                      refine Kd.R_lit_step Kd.string (w0 := wv) wv.heap.size 9 ?hg (N := 82) ?hd (xs := []) (inner := []) (ok := (fun _ => True)) (okp := fun _ => False) ?hr (Reps.none _ _) (fun _ hk => hk.elim) trivial BS.out BS.out.size (by simp) ?_; (case hd => rfl); (case hg => rfl); (case hr => first | (go_simp; done) | (go_simp; rfl))
                      intro v0 w5 hR0 hB0 hg0 hat0
                      have B5 := Aside0.mk hB0
                      have R5 := Aside0.mk hR0
                      clear hR0 hB0 hg0 hat0
                      refine hK.out _ _ B5.out (fun _ => ?_)
                      clear hK K
                      refine norm_ (a' := ?_) ?_ ?_
                      rotate_left
                      · show Act.put _ (some 82) _ = _
                        simp only [Act.put, List.setIfInBounds_toArray, List.set_cons_zero, List.set_cons_succ, i64_w, i32_w]
                        rfl
                      refine two_ (i := 4) (j := 9) (Ni := some 86) (Nj := some 91) #[true, true, true, true, true, true, true, true, true, false, false, true, true, true, false, false] #[true, true, true, true, false, true, true, true, true, true, false, true, true, true, false, false] rfl rfl rfl rfl (two_of HT_.out (by kernel_rfl)) (by decide) (by decide) (fun K hK => ?_) (fun K hK => ?_)
                      · skip
                        refine Kd.R_append_rows_step Kd.string (w0 := wv) wv.heap.size (by rfl) (.tmp 82) (.tmp 85) 22 9 (.string ⟨#[]⟩) 16 rfl Tryz.underlying22 infoStr rfl (by decide) (by omega) v0 [] (X.take a) A1 n1 c1 (fun _ => True) (fun _ => False) rfl rfl R5.out (Kd.C_below CT.out B5.out) (fun x cs h => str_KM h) (fun _ h => h.elim) (fun _ _ => trivial) B5.out B5.out.size (by have h1 := HN1.out; have h2 := HNN.out; have h3 := HXL.out; simp; omega) ?_
                        intro v1 w6 hR hB hg hat
                        have B6 := Aside0.mk hB
                        have R6 := Aside0.mk hR
                        clear hR hB hg hat R5 B5
                        refine hK.out _ _ B6.out (fun _ => ?_)
                        clear hK K
                        refine norm_ (a' := ?_) ?_ ?_
                        rotate_left
                        · show Act.put _ (some 86) _ = _
                          simp only [Act.put, List.setIfInBounds_toArray, List.set_cons_zero, List.set_cons_succ, i64_w, i32_w]
                          rfl
                        refine one_ (i := 9) (N := some 91) #[true, true, true, true, true, true, true, true, true, true, false, true, true, true, false, false] rfl rfl (one_of HT_.out (by kernel_rfl)) (by decide) (fun K hK => ?_)
                        refine Kd.R_lit_step Kd.string (w0 := wv) wv.heap.size 9 ?hg (N := 91) ?hd (xs := [s]) (inner := [.string s]) (ok := (fun _ => True)) (okp := fun _ => False) ?hr ?hp (fun _ hk => hk.elim) trivial B6.out B6.out.size (by simp) ?_; (case hd => rfl); (case hg => rfl); (case hr => first | (go_simp; done) | (go_simp; rfl)); (case hp => exact (rep_one s))
                        intro v2 w7 hR hB hg hat
                        obtain ⟨A_, c_, rfl, _, hC_⟩ := Kd.R_reads hR
                        have B7 := Aside0.mk hB
                        have R7 := Aside0.mk (Kd.R_below R6.out ⟨hg.os, hg.tape, hg.output, hg.size, fun k hk => hg.block k hk (by simp)⟩)
                        have C7 := Aside0.mk hC_
                        clear hR hB hg hat hC_ R6 B6
                        refine hK.out _ _ B7.out (fun _ => ?_)
                        clear hK K
                        refine norm_ (a' := ?_) ?_ ?_
                        rotate_left
                        · show Act.put _ (some 91) _ = _
                          simp only [Act.put, List.setIfInBounds_toArray, List.set_cons_zero, List.set_cons_succ, i64_w, i32_w]
                          rfl
                        exact hCont (_, _, _) _ ⟨B7, R7, A_, c_, rfl, C7⟩
                      · skip
                        refine Kd.R_lit_step Kd.string (w0 := wv) wv.heap.size 9 ?hg (N := 91) ?hd (xs := [s]) (inner := [.string s]) (ok := (fun k => some k ≠ v0.ownBlock)) (okp := fun _ => False) ?hr ?hp (fun _ hk => hk.elim) (fun e => by have := Kd.R_lt R5.out _ e.symm; omega) B5.out B5.out.size (by simp) ?_; (case hd => rfl); (case hg => rfl); (case hr => first | (go_simp; done) | (go_simp; rfl)); (case hp => exact (rep_one s))
                        intro v2 w6 hR hB hg hat
                        have B6 := Aside0.mk hB
                        have R6 := Aside0.mk (Kd.R_below R5.out ⟨hg.os, hg.tape, hg.output, hg.size, fun k hk => hg.block k hk (by simp)⟩)
                        have V6 := Aside0.mk hR
                        clear hR hB hg hat R5 B5
                        refine hK.out _ _ B6.out (fun _ => ?_)
                        clear hK K
                        refine norm_ (a' := ?_) ?_ ?_
                        rotate_left
                        · show Act.put _ (some 91) _ = _
                          simp only [Act.put, List.setIfInBounds_toArray, List.set_cons_zero, List.set_cons_succ, i64_w, i32_w]
                          rfl
                        refine one_ (i := 4) (N := some 86) #[true, true, true, true, true, true, true, true, true, true, false, true, true, true, false, false] rfl rfl (one_of HT_.out (by kernel_rfl)) (by decide) (fun K hK => ?_)
                        refine Kd.R_append_rows_step Kd.string (w0 := wv) wv.heap.size (by rfl) (.tmp 82) (.tmp 85) 22 9 (.string ⟨#[]⟩) 16 rfl Tryz.underlying22 infoStr rfl (by decide) (by omega) v0 [] (X.take a) A1 n1 c1 (fun _ => True) (fun _ => False) rfl rfl R6.out (Kd.C_below CT.out B6.out) (fun x cs h => str_KM h) (fun _ h => h.elim) (fun _ _ => trivial) B6.out B6.out.size (by have h1 := HN1.out; have h2 := HNN.out; have h3 := HXL.out; simp; omega) ?_
                        intro v1 w7 hR hB hg hat
                        obtain ⟨A_, c_, rfl, _, hC_⟩ := Kd.R_reads (Kd.R_grown V6.out hg (fun _ h => h))
                        have B7 := Aside0.mk hB
                        have R7 := Aside0.mk hR
                        have C7 := Aside0.mk hC_
                        clear hR hB hg hat hC_ R6 B6 V6
                        refine hK.out _ _ B7.out (fun _ => ?_)
                        clear hK K
                        refine norm_ (a' := ?_) ?_ ?_
                        rotate_left
                        · show Act.put _ (some 86) _ = _
                          simp only [Act.put, List.setIfInBounds_toArray, List.set_cons_zero, List.set_cons_succ, i64_w, i32_w]
                          rfl
                        exact hCont (_, _, _) _ ⟨B7, R7, A_, c_, rfl, C7⟩
                    · skip
                      refine Kd.R_lit_step Kd.string (w0 := wv) wv.heap.size 9 ?hg (N := 91) ?hd (xs := [s]) (inner := [.string s]) (ok := (fun _ => True)) (okp := fun _ => False) ?hr ?hp (fun _ hk => hk.elim) trivial BS.out BS.out.size (by simp) ?_; (case hd => rfl); (case hg => rfl); (case hr => first | (go_simp; done) | (go_simp; rfl)); (case hp => exact (rep_one s))
                      intro v2 w5 hR hB hg hat
                      have B5 := Aside0.mk hB
                      have V5 := Aside0.mk hR
                      clear hR hB hg hat
                      refine hK.out _ _ B5.out (fun _ => ?_)
                      clear hK K
                      refine norm_ (a' := ?_) ?_ ?_
                      rotate_left
                      · show Act.put _ (some 91) _ = _
                        simp only [Act.put, List.setIfInBounds_toArray, List.set_cons_zero, List.set_cons_succ, i64_w, i32_w]
                        rfl
                      refine one_ (i := 0) (N := some 82) #[true, true, true, true, false, true, true, true, true, true, false, true, true, true, false, false] rfl rfl (one_of HT_.out (by kernel_rfl)) (by decide) (fun K hK => ?_)
                      refine Kd.R_lit_step Kd.string (w0 := wv) wv.heap.size 9 ?hg (N := 82) ?hd (xs := []) (inner := []) (ok := (fun _ => True)) (okp := fun _ => False) ?hr (Reps.none _ _) (fun _ hk => hk.elim) trivial B5.out B5.out.size (by simp) ?_; (case hd => rfl); (case hg => rfl); (case hr => first | (go_simp; done) | (go_simp; rfl))
                      intro v0 w6 hR hB hg hat
                      obtain ⟨b_, hb_, hb2_⟩ := hat
                      have B6 := Aside0.mk hB
                      have R6 := Aside0.mk hR
                      have V6 := Aside0.mk (Kd.R_mono (Kd.R_below (Kd.R_bound V5.out) ⟨hg.os, hg.tape, hg.output, hg.size, fun k hk => hg.block k hk (by simp)⟩) (ok' := fun k => some k ≠ v0.ownBlock) (fun k hk e => by rw [hb_] at e; injection e with e; have := hk.2.2.1; omega))
                      clear hR hB hg hb_ hb2_ B5 V5
                      refine hK.out _ _ B6.out (fun _ => ?_)
                      clear hK K
                      refine norm_ (a' := ?_) ?_ ?_
                      rotate_left
                      · show Act.put _ (some 82) _ = _
                        simp only [Act.put, List.setIfInBounds_toArray, List.set_cons_zero, List.set_cons_succ, i64_w, i32_w]
                        rfl
                      refine one_ (i := 4) (N := some 86) #[true, true, true, true, true, true, true, true, true, true, false, true, true, true, false, false] rfl rfl (one_of HT_.out (by kernel_rfl)) (by decide) (fun K hK => ?_)
                      refine Kd.R_append_rows_step Kd.string (w0 := wv) wv.heap.size (by rfl) (.tmp 82) (.tmp 85) 22 9 (.string ⟨#[]⟩) 16 rfl Tryz.underlying22 infoStr rfl (by decide) (by omega) v0 [] (X.take a) A1 n1 c1 (fun _ => True) (fun _ => False) rfl rfl R6.out (Kd.C_below CT.out B6.out) (fun x cs h => str_KM h) (fun _ h => h.elim) (fun _ _ => trivial) B6.out B6.out.size (by have h1 := HN1.out; have h2 := HNN.out; have h3 := HXL.out; simp; omega) ?_
                      intro v1 w7 hR hB hg hat
                      obtain ⟨A_, c_, rfl, _, hC_⟩ := Kd.R_reads (Kd.R_grown V6.out hg (fun _ h => h))
                      have B7 := Aside0.mk hB
                      have R7 := Aside0.mk hR
                      have C7 := Aside0.mk hC_
                      clear hR hB hg hat hC_ R6 B6 V6
                      refine hK.out _ _ B7.out (fun _ => ?_)
                      clear hK K
                      refine norm_ (a' := ?_) ?_ ?_
                      rotate_left
                      · show Act.put _ (some 86) _ = _
                        simp only [Act.put, List.setIfInBounds_toArray, List.set_cons_zero, List.set_cons_succ, i64_w, i32_w]
                        rfl
                      exact hCont (_, _, _) _ ⟨B7, R7, A_, c_, rfl, C7⟩
                  rintro ⟨v0, v1, v2⟩ w7 ⟨B7, R7, A_, c_, hv_, C7⟩
                  simp only at R7 hv_
                  subst hv_
                  refine norm_ (a' := ?_) ?_ ?_
                  rotate_left
                  · simp only [putAll, List.foldl_cons, List.foldl_nil, Act.put, List.setIfInBounds_toArray, List.set_cons_zero, List.set_cons_succ]
                    rfl
                  refine one_ (i := 10) (N := some 92) #[true, true, true, true, true, true, true, true, true, true, true, true, true, true, false, false] rfl rfl (one_of HT_.out (by kernel_rfl)) (by decide) (fun K hK => ?_)
                  refine Kd.R_append_rows_step Kd.string (w0 := wv) wv.heap.size (by rfl) (.tmp 86) (.tmp 91) 22 9 (.string ⟨#[]⟩) 16 rfl Tryz.underlying22 infoStr rfl (by decide) (by omega) v1 (X.take a) [s] A_ 1 c_ (fun _ => True) (fun _ => False) rfl rfl R7.out C7.out (fun x cs h => str_KM h) (fun _ h => h.elim) (fun _ _ => trivial) B7.out B7.out.size (by have h1 := HN1.out; have h2 := HNN.out; have h3 := HXL.out; simp; omega) ?_
                  intro v3 w8 hR hB hg hat
                  have B8 := Aside0.mk hB
                  have R8 := Aside0.mk hR
                  clear hR hB hg hat B7 R7 C7
                  refine hK.out _ _ B8.out (fun _ => ?_)
                  clear hK K
                  refine norm_ (a' := ?_) ?_ ?_
                  rotate_left
                  · show Act.put _ (some 92) _ = _
                    simp only [Act.put, List.setIfInBounds_toArray, List.set_cons_zero, List.set_cons_succ, i64_w, i32_w]
                    rfl
                  refine one_ (i := 14) (N := some 96) #[true, true, true, true, true, true, true, true, true, true, true, true, true, true, true, false] rfl rfl (one_of HT_.out (by kernel_rfl)) (by decide) (fun K hK => ?_)
                  refine Kd.R_append_rows_step Kd.string (w0 := wv) wv.heap.size (by rfl) (.tmp 92) (.tmp 95) 22 9 (.string ⟨#[]⟩) 16 rfl Tryz.underlying22 infoStr rfl (by decide) (by omega) v3 ((X.take a) ++ [s]) (X.drop a) A2 n2 c2 (fun _ => True) (fun _ => False) rfl rfl R8.out (Kd.C_below CD.out B8.out) (fun x cs h => str_KM h) (fun _ h => h.elim) (fun _ _ => trivial) B8.out B8.out.size (by have h1 := HN1.out; have h2 := HNN.out; have h3 := HXL.out; simp; omega) ?_
                  intro v4 w9 hR hB hg hat
                  have B9 := Aside0.mk hB
                  have R9 := Aside0.mk hR
                  clear hR hB hg hat B8 R8
                  refine hK.out _ _ B9.out (fun _ => ?_)
                  clear hK K
                  refine norm_ (a' := ?_) ?_ ?_
                  rotate_left
                  · show Act.put _ (some 96) _ = _
                    simp only [Act.put, List.setIfInBounds_toArray, List.set_cons_zero, List.set_cons_succ, i64_w, i32_w]
                    rfl
                  refine pure_ (i := 15) (N := some 5) (v := ?_) (a' := ?_) #[true, true, true, true, true, true, true, true, true, true, true, true, true, true, true, true] rfl rfl (any_of HT_.out (by kernel_rfl)) (fun _ _ _ h => h) (Or.inl ⟨by rfl, ?_⟩) ?_ ?_
                  rotate_left
                  · intro w'
                    go_simp
                    with_reducible rfl
                  rotate_left
                  · simp only [Act.put, List.setIfInBounds_toArray, List.set_cons_zero, List.set_cons_succ, i64_w, i32_w]
                    rfl
                  refine done_ (done_of HT_.out (by kernel_rfl)) ?_
                  rw [HI.out, ← HN2.out] at R9
                  go_wp2_with fail
                  go_roundw
                  case rel => exact ⟨i + 1, by omega, by go_num, ⟨Kd.R_lower R9.out BV.out.size⟩, ⟨BV.out.trans (B9.out.mono BV.out.size)⟩⟩
                  case measure => simp [intOf]; omega
            · have d3 : decide ((a : Int) < (X.length : Int)) = false := decide_eq_false (by omega)
              have haa : a = X.length := by omega
              subst haa
              have HI := Aside0.mk (insU_at s X X.length HA.out (fun hh => by omega) (Nat.le_refl _) HPW.out.1)
              go_wp2
              repeat (go_quiet (fail); try go_wp2)
              clear n0
              have hC7 := (Kd.R_reads' RV.out)
              obtain ⟨A1, c1, A2, c2, hcut1, hCT, hcut2, hCD⟩ := cut_twoS (P := Tryz.prog) 22 9 Tryz.underlying22 infoStr hC7.2.2 hC7.2.1 X.length ha
              obtain ⟨n1, hn1⟩ : ∃ n_ : Nat, (X.take X.length).length = n_ := ⟨_, rfl⟩
              obtain ⟨n2, hn2⟩ : ∃ n_ : Nat, (X.drop X.length).length = n_ := ⟨_, rfl⟩
              rw [hn1] at hcut1 hCT
              rw [hn2] at hcut2 hCD
              have HN1 := Aside0.mk (show n1 ≤ 1000000 by rw [← hn1, List.length_take]; omega)
              have HNN := Aside0.mk (show n2 ≤ 1000000 by rw [← hn2, List.length_drop]; omega)
              clear hn1 hn2
              have CT := Aside0.mk hCT
              have CD := Aside0.mk hCD
              clear hCT hCD hC7
              refine region_draw (n := 16) (S := fun W => Below wv.heap.size wv W) (ds := []) #[false, false, false, false, false, false, false, false, false, false, false, false, false, false, false, false] (by kernel_rfl) rfl rfl (fun W => Below wv.heap.size wv W) (by repeat (first | (with_reducible first | exact HBX.out | apply below_alloc | apply pw_below_drewN | apply below_drew1) | exact HBX.out)) (fun W h => h) ?_
              rintro ws hws
              refine with_tabW wst12tab wst12bits (fun HT_ HW_ => ?_)
              have BS := Aside0.mk hws
              clear hws
              refine pure_ (i := 1) (N := some 83) (v := ?_) (a' := ?_) #[false, true, false, false, false, false, false, false, false, false, false, false, false, false, false, false] rfl rfl (any_of HT_.out (by kernel_rfl)) (fun _ _ _ h => h) (Or.inl ⟨by rfl, ?_⟩) ?_ ?_
              rotate_left
              · intro w'
                go_simp
                with_reducible rfl
              rotate_left
              · simp only [Act.put, List.setIfInBounds_toArray, List.set_cons_zero, List.set_cons_succ, i64_w, i32_w]
                rfl
              refine pure_ (i := 2) (N := some 84) (v := ?_) (a' := ?_) #[false, true, true, false, false, false, false, false, false, false, false, false, false, false, false, false] rfl rfl (any_of HT_.out (by kernel_rfl)) (fun _ _ _ h => h) (Or.inl ⟨by rfl, ?_⟩) ?_ ?_
              rotate_left
              · intro w'
                go_simp
                with_reducible rfl
              rotate_left
              · simp only [Act.put, List.setIfInBounds_toArray, List.set_cons_zero, List.set_cons_succ, i64_w, i32_w]
                rfl
              refine pure_ (i := 3) (N := some 85) (v := ?_) (a' := ?_) #[false, true, true, true, false, false, false, false, false, false, false, false, false, false, false, false] rfl rfl (any_of HT_.out (by kernel_rfl)) (fun _ _ _ h => h) (Or.inl ⟨by rfl, ?_⟩) ?_ ?_
              rotate_left
              · intro w'
                go_simp
                with_reducible rfl
              rotate_left
              · simp only [Act.put, List.setIfInBounds_toArray, List.set_cons_zero, List.set_cons_succ, i64_w, i32_w]
                rfl
              refine pure_ (i := 5) (N := some 87) (v := ?_) (a' := ?_) #[false, true, true, true, false, true, false, false, false, false, false, false, false, false, false, false] rfl rfl (any_of HT_.out (by kernel_rfl)) (fun _ _ _ h => h) (Or.inl ⟨by rfl, ?_⟩) ?_ ?_
              rotate_left
              · intro w'
                go_simp
                with_reducible rfl
              rotate_left
              · simp only [Act.put, List.setIfInBounds_toArray, List.set_cons_zero, List.set_cons_succ, i64_w, i32_w]
                rfl
              refine pure_ (i := 6) (N := some 88) (v := ?_) (a' := ?_) #[false, true, true, true, false, true, true, false, false, false, false, false, false, false, false, false] rfl rfl (any_of HT_.out (by kernel_rfl)) (fun _ _ _ h => h) (Or.inl ⟨by rfl, ?_⟩) ?_ ?_
              rotate_left
              · intro w'
                go_simp
                with_reducible rfl
              rotate_left
              · simp only [Act.put, List.setIfInBounds_toArray, List.set_cons_zero, List.set_cons_succ, i64_w, i32_w]
                rfl
              refine pure_ (i := 7) (N := some 89) (v := ?_) (a' := ?_) #[false, true, true, true, false, true, true, true, false, false, false, false, false, false, false, false] rfl rfl (any_of HT_.out (by kernel_rfl)) (fun _ _ _ h => h) (Or.inl ⟨by rfl, ?_⟩) ?_ ?_
              rotate_left
              · intro w'
                go_simp
                with_reducible rfl
              rotate_left
              · simp only [Act.put, List.setIfInBounds_toArray, List.set_cons_zero, List.set_cons_succ, i64_w, i32_w]
                rfl
              refine take_ (i := 8) (N := some 90) (v := ?_) (a' := ?_) #[false, true, true, true, false, true, true, true, true, false, false, false, false, false, false, false] rfl rfl (take_ofW HT_.out HW_.out (by kernel_rfl)) (fun _ _ _ h => h) (Or.inl ⟨by rfl, ?_⟩) BS.out ?_ ?_
              rotate_left
              · intro w' hW
                have n0 := XN.out w' (BV.out.trans (hW.mono BV.out.size))
                go_simp
                with_reducible rfl
              rotate_left
              · simp only [Act.put, List.setIfInBounds_toArray, List.set_cons_zero, List.set_cons_succ, i64_w, i32_w]
                rfl
              refine pure_ (i := 11) (N := some 93) (v := ?_) (a' := ?_) #[false, true, true, true, false, true, true, true, true, false, false, true, false, false, false, false] rfl rfl (any_of HT_.out (by kernel_rfl)) (fun _ _ _ h => h) (Or.inl ⟨by rfl, ?_⟩) ?_ ?_
              rotate_left
              · intro w'
                go_simp
                with_reducible rfl
              rotate_left
              · simp only [Act.put, List.setIfInBounds_toArray, List.set_cons_zero, List.set_cons_succ, i64_w, i32_w]
                rfl
              refine pure_ (i := 12) (N := some 94) (v := ?_) (a' := ?_) #[false, true, true, true, false, true, true, true, true, false, false, true, true, false, false, false] rfl rfl (any_of HT_.out (by kernel_rfl)) (fun _ _ _ h => h) (Or.inl ⟨by rfl, ?_⟩) ?_ ?_
              rotate_left
              · intro w'
                go_simp
                with_reducible rfl
              rotate_left
              · simp only [Act.put, List.setIfInBounds_toArray, List.set_cons_zero, List.set_cons_succ, i64_w, i32_w]
                rfl
              refine pure_ (i := 13) (N := some 95) (v := ?_) (a' := ?_) #[false, true, true, true, false, true, true, true, true, false, false, true, true, true, false, false] rfl rfl (any_of HT_.out (by kernel_rfl)) (fun _ _ _ h => h) (Or.inl ⟨by rfl, ?_⟩) ?_ ?_
              rotate_left
              · intro w'
                go_simp
                with_reducible rfl
              rotate_left
              · simp only [Act.put, List.setIfInBounds_toArray, List.set_cons_zero, List.set_cons_succ, i64_w, i32_w]
                rfl
              refine join_ (σ := Value × Value × Value) 3 #[true, true, true, true, true, true, true, true, true, true, false, true, true, true, false, false] (fun s_ => [(82, s_.1), (86, s_.2.1), (91, s_.2.2)]) (fun s_ w' => Aside0 (Below wv.heap.size wv w') ∧ Aside0 (Kd.string.R 9 w' wv.heap.size (fun _ => True) s_.2.1 (X.take X.length)) ∧ ∃ A_ c_, s_.2.2 = .slice A_ 1 c_ ∧ Aside0 (Kd.string.C w' A_ 1 [s])) ?_ ?_
              rotate_left
              · intro hCont
                refine two_ (i := 0) (j := 9) (Ni := some 82) (Nj := some 91) #[true, true, true, true, false, true, true, true, true, false, false, true, true, true, false, false] #[false, true, true, true, false, true, true, true, true, true, false, true, true, true, false, false] rfl rfl rfl rfl (two_of HT_.out (by kernel_rfl)) (by decide) (by decide) (fun K hK => ?_) (fun K hK => ?_)
                · skip
                  refine Kd.R_lit_step Kd.string (w0 := wv) wv.heap.size 9 ?hg (N := 82) ?hd (xs := []) (inner := []) (ok := (fun _ => True)) (okp := fun _ => False) ?hr (Reps.none _ _) (fun _ hk => hk.elim) trivial BS.out BS.out.size (by simp) ?_; (case hd => rfl); (case hg => rfl); (case hr => first | (go_simp; done) | (go_simp; rfl))
                  intro v0 w5 hR0 hB0 hg0 hat0
                  have B5 := Aside0.mk hB0
                  have R5 := Aside0.mk hR0
                  clear hR0 hB0 hg0 hat0
                  refine hK.out _ _ B5.out (fun _ => ?_)
                  clear hK K
                  refine norm_ (a' := ?_) ?_ ?_
                  rotate_left
                  · show Act.put _ (some 82) _ = _
                    simp only [Act.put, List.setIfInBounds_toArray, List.set_cons_zero, List.set_cons_succ, i64_w, i32_w]
                    rfl
                  refine two_ (i := 4) (j := 9) (Ni := some 86) (Nj := some 91) #[true, true, true, true, true, true, true, true, true, false, false, true, true, true, false, false] #[true, true, true, true, false, true, true, true, true, true, false, true, true, true, false, false] rfl rfl rfl rfl (two_of HT_.out (by kernel_rfl)) (by decide) (by decide) (fun K hK => ?_) (fun K hK => ?_)
                  · skip
                    refine Kd.R_append_rows_step Kd.string (w0 := wv) wv.heap.size (by rfl) (.tmp 82) (.tmp 85) 22 9 (.string ⟨#[]⟩) 16 rfl Tryz.underlying22 infoStr rfl (by decide) (by omega) v0 [] (X.take X.length) A1 n1 c1 (fun _ => True) (fun _ => False) rfl rfl R5.out (Kd.C_below CT.out B5.out) (fun x cs h => str_KM h) (fun _ h => h.elim) (fun _ _ => trivial) B5.out B5.out.size (by have h1 := HN1.out; have h2 := HNN.out; have h3 := HXL.out; simp; omega) ?_
                    intro v1 w6 hR hB hg hat
                    have B6 := Aside0.mk hB
                    have R6 := Aside0.mk hR
                    clear hR hB hg hat R5 B5
                    refine hK.out _ _ B6.out (fun _ => ?_)
                    clear hK K
                    refine norm_ (a' := ?_) ?_ ?_
                    rotate_left
                    · show Act.put _ (some 86) _ = _
                      simp only [Act.put, List.setIfInBounds_toArray, List.set_cons_zero, List.set_cons_succ, i64_w, i32_w]
                      rfl
                    refine one_ (i := 9) (N := some 91) #[true, true, true, true, true, true, true, true, true, true, false, true, true, true, false, false] rfl rfl (one_of HT_.out (by kernel_rfl)) (by decide) (fun K hK => ?_)
                    refine Kd.R_lit_step Kd.string (w0 := wv) wv.heap.size 9 ?hg (N := 91) ?hd (xs := [s]) (inner := [.string s]) (ok := (fun _ => True)) (okp := fun _ => False) ?hr ?hp (fun _ hk => hk.elim) trivial B6.out B6.out.size (by simp) ?_; (case hd => rfl); (case hg => rfl); (case hr => first | (go_simp; done) | (go_simp; rfl)); (case hp => exact (rep_one s))
                    intro v2 w7 hR hB hg hat
                    obtain ⟨A_, c_, rfl, _, hC_⟩ := Kd.R_reads hR
                    have B7 := Aside0.mk hB
                    have R7 := Aside0.mk (Kd.R_below R6.out ⟨hg.os, hg.tape, hg.output, hg.size, fun k hk => hg.block k hk (by simp)⟩)
                    have C7 := Aside0.mk hC_
                    clear hR hB hg hat hC_ R6 B6
                    refine hK.out _ _ B7.out (fun _ => ?_)
                    clear hK K
                    refine norm_ (a' := ?_) ?_ ?_
                    rotate_left
                    · show Act.put _ (some 91) _ = _
                      simp only [Act.put, List.setIfInBounds_toArray, List.set_cons_zero, List.set_cons_succ, i64_w, i32_w]
                      rfl
                    exact hCont (_, _, _) _ ⟨B7, R7, A_, c_, rfl, C7⟩
                  · skip
                    refine Kd.R_lit_step Kd.string (w0 := wv) wv.heap.size 9 ?hg (N := 91) ?hd (xs := [s]) (inner := [.string s]) (ok := (fun k => some k ≠ v0.ownBlock)) (okp := fun _ => False) ?hr ?hp (fun _ hk => hk.elim) (fun e => by have := Kd.R_lt R5.out _ e.symm; omega) B5.out B5.out.size (by simp) ?_; (case hd => rfl); (case hg => rfl); (case hr => first | (go_simp; done) | (go_simp; rfl)); (case hp => exact (rep_one s))
                    intro v2 w6 hR hB hg hat
                    have B6 := Aside0.mk hB
                    have R6 := Aside0.mk (Kd.R_below R5.out ⟨hg.os, hg.tape, hg.output, hg.size, fun k hk => hg.block k hk (by simp)⟩)
                    have V6 := Aside0.mk hR
                    clear hR hB hg hat R5 B5
                    refine hK.out _ _ B6.out (fun _ => ?_)
                    clear hK K
                    refine norm_ (a' := ?_) ?_ ?_
                    rotate_left
                    · show Act.put _ (some 91) _ = _
                      simp only [Act.put, List.setIfInBounds_toArray, List.set_cons_zero, List.set_cons_succ, i64_w, i32_w]
                      rfl
                    refine one_ (i := 4) (N := some 86) #[true, true, true, true, true, true, true, true, true, true, false, true, true, true, false, false] rfl rfl (one_of HT_.out (by kernel_rfl)) (by decide) (fun K hK => ?_)
                    refine Kd.R_append_rows_step Kd.string (w0 := wv) wv.heap.size (by rfl) (.tmp 82) (.tmp 85) 22 9 (.string ⟨#[]⟩) 16 rfl Tryz.underlying22 infoStr rfl (by decide) (by omega) v0 [] (X.take X.length) A1 n1 c1 (fun _ => True) (fun _ => False) rfl rfl R6.out (Kd.C_below CT.out B6.out) (fun x cs h => str_KM h) (fun _ h => h.elim) (fun _ _ => trivial) B6.out B6.out.size (by have h1 := HN1.out; have h2 := HNN.out; have h3 := HXL.out; simp; omega) ?_
                    intro v1 w7 hR hB hg hat
                    obtain ⟨A_, c_, rfl, _, hC_⟩ := Kd.R_reads (Kd.R_grown V6.out hg (fun _ h => h))
                    have B7 := Aside0.mk hB
                    have R7 := Aside0.mk hR
                    have C7 := Aside0.mk hC_
                    clear hR hB hg hat hC_ R6 B6 V6
                    refine hK.out _ _ B7.out (fun _ => ?_)
                    clear hK K
                    refine norm_ (a' := ?_) ?_ ?_
                    rotate_left
                    · show Act.put _ (some 86) _ = _
                      simp only [Act.put, List.setIfInBounds_toArray, List.set_cons_zero, List.set_cons_succ, i64_w, i32_w]
                      rfl
                    exact hCont (_, _, _) _ ⟨B7, R7, A_, c_, rfl, C7⟩
                · skip
                  refine Kd.R_lit_step Kd.string (w0 := wv) wv.heap.size 9 ?hg (N := 91) ?hd (xs := [s]) (inner := [.string s]) (ok := (fun _ => True)) (okp := fun _ => False) ?hr ?hp (fun _ hk => hk.elim) trivial BS.out BS.out.size (by simp) ?_; (case hd => rfl); (case hg => rfl); (case hr => first | (go_simp; done) | (go_simp; rfl)); (case hp => exact (rep_one s))
                  intro v2 w5 hR hB hg hat
                  have B5 := Aside0.mk hB
                  have V5 := Aside0.mk hR
                  clear hR hB hg hat
                  refine hK.out _ _ B5.out (fun _ => ?_)
                  clear hK K
                  refine norm_ (a' := ?_) ?_ ?_
                  rotate_left
                  · show Act.put _ (some 91) _ = _
                    simp only [Act.put, List.setIfInBounds_toArray, List.set_cons_zero, List.set_cons_succ, i64_w, i32_w]
                    rfl
                  refine one_ (i := 0) (N := some 82) #[true, true, true, true, false, true, true, true, true, true, false, true, true, true, false, false] rfl rfl (one_of HT_.out (by kernel_rfl)) (by decide) (fun K hK => ?_)
                  refine Kd.R_lit_step Kd.string (w0 := wv) wv.heap.size 9 ?hg (N := 82) ?hd (xs := []) (inner := []) (ok := (fun _ => True)) (okp := fun _ => False) ?hr (Reps.none _ _) (fun _ hk => hk.elim) trivial B5.out B5.out.size (by simp) ?_; (case hd => rfl); (case hg => rfl); (case hr => first | (go_simp; done) | (go_simp; rfl))
                  intro v0 w6 hR hB hg hat
                  obtain ⟨b_, hb_, hb2_⟩ := hat
                  have B6 := Aside0.mk hB
                  have R6 := Aside0.mk hR
                  have V6 := Aside0.mk (Kd.R_mono (Kd.R_below (Kd.R_bound V5.out) ⟨hg.os, hg.tape, hg.output, hg.size, fun k hk => hg.block k hk (by simp)⟩) (ok' := fun k => some k ≠ v0.ownBlock) (fun k hk e => by rw [hb_] at e; injection e with e; have := hk.2.2.1; omega))
                  clear hR hB hg hb_ hb2_ B5 V5
                  refine hK.out _ _ B6.out (fun _ => ?_)
                  clear hK K
                  refine norm_ (a' := ?_) ?_ ?_
                  rotate_left
                  · show Act.put _ (some 82) _ = _
                    simp only [Act.put, List.setIfInBounds_toArray, List.set_cons_zero, List.set_cons_succ, i64_w, i32_w]
                    rfl
                  refine one_ (i := 4) (N := some 86) #[true, true, true, true, true, true, true, true, true, true, false, true, true, true, false, false] rfl rfl (one_of HT_.out (by kernel_rfl)) (by decide) (fun K hK => ?_)
                  refine Kd.R_append_rows_step Kd.string (w0 := wv) wv.heap.size (by rfl) (.tmp 82) (.tmp 85) 22 9 (.string ⟨#[]⟩) 16 rfl Tryz.underlying22 infoStr rfl (by decide) (by omega) v0 [] (X.take X.length) A1 n1 c1 (fun _ => True) (fun _ => False) rfl rfl R6.out (Kd.C_below CT.out B6.out) (fun x cs h => str_KM h) (fun _ h => h.elim) (fun _ _ => trivial) B6.out B6.out.size (by have h1 := HN1.out; have h2 := HNN.out; have h3 := HXL.out; simp; omega) ?_
                  intro v1 w7 hR hB hg hat
                  obtain ⟨A_, c_, rfl, _, hC_⟩ := Kd.R_reads (Kd.R_grown V6.out hg (fun _ h => h))
                  have B7 := Aside0.mk hB
                  have R7 := Aside0.mk hR
                  have C7 := Aside0.mk hC_
                  clear hR hB hg hat hC_ R6 B6 V6
                  refine hK.out _ _ B7.out (fun _ => ?_)
                  clear hK K
                  refine norm_ (a' := ?_) ?_ ?_
                  rotate_left
                  · show Act.put _ (some 86) _ = _
                    simp only [Act.put, List.setIfInBounds_toArray, List.set_cons_zero, List.set_cons_succ, i64_w, i32_w]
                    rfl
                  exact hCont (_, _, _) _ ⟨B7, R7, A_, c_, rfl, C7⟩
              rintro ⟨v0, v1, v2⟩ w7 ⟨B7, R7, A_, c_, hv_, C7⟩
              simp only at R7 hv_
              subst hv_
              refine norm_ (a' := ?_) ?_ ?_
              rotate_left
              · simp only [putAll, List.foldl_cons, List.foldl_nil, Act.put, List.setIfInBounds_toArray, List.set_cons_zero, List.set_cons_succ]
                rfl
              refine one_ (i := 10) (N := some 92) #[true, true, true, true, true, true, true, true, true, true, true, true, true, true, false, false] rfl rfl (one_of HT_.out (by kernel_rfl)) (by decide) (fun K hK => ?_)
              refine Kd.R_append_rows_step Kd.string (w0 := wv) wv.heap.size (by rfl) (.tmp 86) (.tmp 91) 22 9 (.string ⟨#[]⟩) 16 rfl Tryz.underlying22 infoStr rfl (by decide) (by omega) v1 (X.take X.length) [s] A_ 1 c_ (fun _ => True) (fun _ => False) rfl rfl R7.out C7.out (fun x cs h => str_KM h) (fun _ h => h.elim) (fun _ _ => trivial) B7.out B7.out.size (by have h1 := HN1.out; have h2 := HNN.out; have h3 := HXL.out; simp; omega) ?_
              intro v3 w8 hR hB hg hat
              have B8 := Aside0.mk hB
              have R8 := Aside0.mk hR
              clear hR hB hg hat B7 R7 C7
              refine hK.out _ _ B8.out (fun _ => ?_)
              clear hK K
              refine norm_ (a' := ?_) ?_ ?_
              rotate_left
              · show Act.put _ (some 92) _ = _
                simp only [Act.put, List.setIfInBounds_toArray, List.set_cons_zero, List.set_cons_succ, i64_w, i32_w]
                rfl
              refine one_ (i := 14) (N := some 96) #[true, true, true, true, true, true, true, true, true, true, true, true, true, true, true, false] rfl rfl (one_of HT_.out (by kernel_rfl)) (by decide) (fun K hK => ?_)
              refine Kd.R_append_rows_step Kd.string (w0 := wv) wv.heap.size (by rfl) (.tmp 92) (.tmp 95) 22 9 (.string ⟨#[]⟩) 16 rfl Tryz.underlying22 infoStr rfl (by decide) (by omega) v3 ((X.take X.length) ++ [s]) (X.drop X.length) A2 n2 c2 (fun _ => True) (fun _ => False) rfl rfl R8.out (Kd.C_below CD.out B8.out) (fun x cs h => str_KM h) (fun _ h => h.elim) (fun _ _ => trivial) B8.out B8.out.size (by have h1 := HN1.out; have h2 := HNN.out; have h3 := HXL.out; simp; omega) ?_
              intro v4 w9 hR hB hg hat
              have B9 := Aside0.mk hB
              have R9 := Aside0.mk hR
              clear hR hB hg hat B8 R8
              refine hK.out _ _ B9.out (fun _ => ?_)
              clear hK K
              refine norm_ (a' := ?_) ?_ ?_
              rotate_left
              · show Act.put _ (some 96) _ = _
                simp only [Act.put, List.setIfInBounds_toArray, List.set_cons_zero, List.set_cons_succ, i64_w, i32_w]
                rfl
              refine pure_ (i := 15) (N := some 5) (v := ?_) (a' := ?_) #[true, true, true, true, true, true, true, true, true, true, true, true, true, true, true, true] rfl rfl (any_of HT_.out (by kernel_rfl)) (fun _ _ _ h => h) (Or.inl ⟨by rfl, ?_⟩) ?_ ?_
              rotate_left
              · intro w'
                go_simp
                with_reducible rfl
              rotate_left
              · simp only [Act.put, List.setIfInBounds_toArray, List.set_cons_zero, List.set_cons_succ, i64_w, i32_w]
                rfl
              refine done_ (done_of HT_.out (by kernel_rfl)) ?_
              rw [HI.out, ← HN2.out] at R9
              go_wp2_with fail
              go_roundw
              case rel => exact ⟨i + 1, by omega, by go_num, ⟨Kd.R_lower R9.out BV.out.size⟩, ⟨BV.out.trans (B9.out.mono BV.out.size)⟩⟩
              case measure => simp [intOf]; omega
    · have d1 : decide ((i : Int) < (xs.length : Int)) = false := decide_eq_false (by omega)
      have hii : i = xs.length := by omega
      subst hii
      rw [List.take_length] at HR ⊢
      go_wp2_with fail
      go_ret
      exact ⟨_, rfl, Kd.R_lower HR.out B1.out.size, B1.out.trans (HB.out.mono B1.out.size)⟩
def wlaw9T : Bool × List (List Nat × List Nat) := (true, [([], []), ([], []), ([0, 1], [0, 1]), ([], []), ([], []), ([4, 2], [4]), ([3, 5, 5], [3, 5]), ([2, 6, 6], [2, 6]), ([7, 7, 0, 1, 2, 3, 4, 5, 6, 7], [7])])
def wlaw9B : List Nat := [0, 0, 3, 0, 0, 23, 63, 127, 255]
theorem wlaw9tab : rtab .any (opsOf Tryz.f3 9) = wlaw9T := by kernel_rfl
theorem wlaw9bits : waitsOk wlaw9T.2 wlaw9B = true := by kernel_rfl
set_option maxHeartbeats 25600000 in
set_option maxRecDepth 100000 in
theorem waste_walk (An : Option Addr) (cn : Nat) (xs : List ByteArray) (ver : Int) (A : Option Addr) (c : Nat) (segs : List SgI) (w : World) (hL : LaidW w)
    (hx : Kd.string.C w An xs.length xs) (hxc : xs.length ≤ cn) (hc : Kd.C k45 w A segs.length segs) (hcc : segs.length ≤ c) :
    Calls Tryz.prog 3 #[.slice An xs.length cn, .agg #[.int .i64 ver, .slice A segs.length c]] w fun e w' => e = .returned (.bool true) ∧ Below w.heap.size w w' := by
  have HL := Aside0.mk hL
  have HC := Aside0.mk hc
  have HX := Aside0.mk hx
  have HXC := Aside0.mk hxc
  have HCC := Aside0.mk hcc
  clear hL hc hx hxc hcc
  go_enter Tryz.func3, Tryz.ntmps3
  go_upto_region 1 with (fail)
  obtain ⟨w1, hw1⟩ : ∃ w1, w.alloc (.cells #[.int .i64 ver, .slice A segs.length c] 25) = w1 := ⟨_, rfl⟩
  have XM := Aside0.mk (show w1.heap[w.heap.size]? = some (.cells #[.int .i64 ver, .slice A segs.length c] 25) by rw [← hw1]; exact blk_new _ _)
  have B1 := Aside0.mk (show Below w.heap.size w w1 by rw [← hw1]; exact (Below.refl _ w).alloc (Nat.le_refl _) _)
  rw [hw1]
  obtain ⟨gm, hgm⟩ : ∃ g, w.heap.size = g := ⟨_, rfl⟩
  have XM := Aside0.mk (show w1.heap[gm]? = some (.cells #[.int .i64 ver, .slice A segs.length c] 25) by rw [← hgm]; exact XM.out)
  try rw [hgm]
  clear hw1 hgm
  go_wp2_with fail
  refine (awake13.calls w1 (HL.out.below B1.out)).mono ?_
  rintro e w2 ⟨rfl, b2⟩
  have X2 := Aside0.mk (blk_below XM.out b2)
  have B2 := Aside0.mk (B1.out.trans (b2.mono B1.out.size))
  obtain ⟨m0, m1, mf⟩ := cells2m X2.out
  clear b2 XM B1
  by_cases h60 : 60 < xs.length
  · have d60 : decide ((60 : Int) < (xs.length : Int)) = true := decide_eq_true (by omega)
    go_wp2_with fail
    go_ret
    exact ⟨rfl, B2.out⟩
  have d60 : decide ((60 : Int) < (xs.length : Int)) = false := decide_eq_false (by omega)
  by_cases hs60 : 60 < segs.length
  · have ds60 : decide ((60 : Int) < (segs.length : Int)) = true := decide_eq_true (by omega)
    go_wp2_with fail
    go_ret
    exact ⟨rfl, B2.out⟩
  have ds60 : decide ((60 : Int) < (segs.length : Int)) = false := decide_eq_false (by omega)
  go_wp2_with fail
  clear m0 m1 mf
  go_loopw [6] (fun v6 wr => ∃ i : Nat, i ≤ xs.length ∧ v6 = .int .i64 i ∧ Aside0 (∀ j (h : j < xs.length), j < i → xs[j].size ≤ 100) ∧ wr = w2) (fun v6 _ => xs.length - (intOf v6).toNat)
  case atStart => exact ⟨0, by omega, rfl, ⟨fun j _ hj => by omega⟩, rfl⟩
  case round =>
    obtain ⟨i, hi, rfl, HA, rfl⟩ := hrel
    by_cases hlt : i < xs.length
    · have d1 : decide ((i : Int) < (xs.length : Int)) = true := decide_eq_true (by omega)
      have i0 : 0 ≤ (i : Int) := by omega
      have i1 : (i : Int) < (xs.length : Int) := by omega
      obtain ⟨adn, rfl, n0⟩ := C_strAt (Kd.C_below HX.out B2.out) hlt
      obtain ⟨s, hs⟩ : ∃ s, xs[i] = s := ⟨_, rfl⟩
      rw [hs] at n0
      have HS := Aside0.mk hs
      clear hs
      by_cases h100 : 100 < s.size
      · have d2 : decide ((100 : Int) < (s.size : Int)) = true := decide_eq_true (by omega)
        go_wp2_with fail
        go_ret
        exact ⟨rfl, B2.out⟩
      · have d2 : decide ((100 : Int) < (s.size : Int)) = false := decide_eq_false (by omega)
        go_wp2_with fail
        go_roundw
        case rel => exact ⟨i + 1, by omega, by go_num, ⟨fun j h hj => by
          rcases Nat.lt_succ_iff_lt_or_eq.1 hj with h3 | rfl
          · exact HA.out j h h3
          · rw [HS.out]; omega⟩, trivial⟩
        case measure => simp [intOf]; omega
    · have d1 : decide ((i : Int) < (xs.length : Int)) = false := decide_eq_false (by omega)
      have HXS := Aside0.mk (show ∀ x ∈ xs, x.size ≤ 100 from fun x hx => by
        obtain ⟨j, hj, rfl⟩ := List.mem_iff_getElem.1 hx
        exact HA.out j hj (by omega))
      go_upto_region 9 with (fail)
      rename World => wb
      refine region_draw (n := 9) (S := fun W => Below wb.heap.size wb W) (ds := []) #[false, false, false, false, false, false, false, false, false] (by kernel_rfl) rfl rfl (fun W => Below wb.heap.size wb W) (by exact below_drew1 (Below.refl _ _)) (fun W h => h) ?_
      rintro ws hws
      refine with_tabW wlaw9tab wlaw9bits (fun HT_ HW_ => ?_)
      have BS := Aside0.mk hws
      clear hws
      have L2 := Aside0.mk (HL.out.below B2.out)
      have C2 := Aside0.mk (Kd.C_below HC.out B2.out)
      have XS2 := Aside0.mk (Kd.C_below HX.out B2.out)
      have hsn : segs.length ≤ 1000000 := by omega
      have hxn : xs.length ≤ 1000 := by omega
      refine pure_ (i := 0) (N := some 32) (v := ?_) (a' := ?_) #[true, false, false, false, false, false, false, false, false] rfl rfl (any_of HT_.out (by kernel_rfl)) (fun _ _ _ h => h) (Or.inl ⟨by rfl, ?_⟩) ?_ ?_
      rotate_left
      · intro w'
        go_simp
        with_reducible rfl
      rotate_left
      · simp only [Act.put, List.setIfInBounds_toArray, List.set_cons_zero, List.set_cons_succ, i64_w, i32_w]
        rfl
      refine take_ (i := 1) (N := some 33) (v := ?_) (a' := ?_) #[true, true, false, false, false, false, false, false, false] rfl rfl (take_ofW HT_.out HW_.out (by kernel_rfl)) (fun _ _ _ h => h) (Or.inl ⟨by rfl, ?_⟩) BS.out ?_ ?_
      rotate_left
      · intro w' hW
        obtain ⟨m0, m1, mf⟩ := cells2m (blk_below X2.out hW)
        go_simp
        with_reducible rfl
      rotate_left
      · simp only [Act.put, List.setIfInBounds_toArray, List.set_cons_zero, List.set_cons_succ, i64_w, i32_w]
        rfl
      refine pure_ (i := 3) (N := some 35) (v := ?_) (a' := ?_) #[true, true, false, true, false, false, false, false, false] rfl rfl (any_of HT_.out (by kernel_rfl)) (fun _ _ _ h => h) (Or.inl ⟨by rfl, ?_⟩) ?_ ?_
      rotate_left
      · intro w'
        go_simp
        with_reducible rfl
      rotate_left
      · simp only [Act.put, List.setIfInBounds_toArray, List.set_cons_zero, List.set_cons_succ, i64_w, i32_w]
        rfl
      refine take_ (i := 4) (N := some 36) (v := ?_) (a' := ?_) #[true, true, false, true, true, false, false, false, false] rfl rfl (take_ofW HT_.out HW_.out (by kernel_rfl)) (fun _ _ _ h => h) (Or.inl ⟨by rfl, ?_⟩) BS.out ?_ ?_
      rotate_left
      · intro w' hW
        obtain ⟨m0, m1, mf⟩ := cells2m (blk_below X2.out hW)
        go_simp
        with_reducible rfl
      rotate_left
      · simp only [Act.put, List.setIfInBounds_toArray, List.set_cons_zero, List.set_cons_succ, i64_w, i32_w]
        rfl
      refine one_ (i := 2) (N := some 34) #[true, true, true, true, true, false, false, false, false] rfl rfl (one_of HT_.out (by kernel_rfl)) (by decide) (fun K hK => ?_)
      refine goes_ Tryz.func9 (by kernel_rfl) rfl #[.slice An xs.length cn, .agg #[.int .i64 ver, .slice A segs.length c]] (by rfl) rfl rfl (by (try simp only [List.map_toArray, List.map_cons, List.map_nil]); first | done | rfl) ?_
      refine (pub_Waste.calls ver A c segs An cn xs ws (L2.out.below BS.out) (Kd.C_below C2.out BS.out) hsn (Kd.C_below XS2.out BS.out) HXC.out (by omega) (fun x hx => Nat.le_trans (HXS.out x hx) (by decide))).mono ?_
      rintro e w5 ⟨v5, rfl, h5, b5⟩
      refine ⟨_, rfl, ?_⟩
      obtain ⟨A5, c5, rfl⟩ := Kd.R_slice h5
      have R5 := Aside0.mk h5
      have B5 := Aside0.mk (BS.out.trans (b5.mono BS.out.size))
      clear h5 b5
      refine hK.out _ _ B5.out (fun _ => ?_)
      clear hK K
      refine norm_ (a' := ?_) ?_ ?_
      rotate_left
      · show Act.put _ (some 34) _ = _
        simp only [Act.put, List.setIfInBounds_toArray, List.set_cons_zero, List.set_cons_succ, i64_w, i32_w]
        rfl
      refine one_ (i := 5) (N := some 37) #[true, true, true, true, true, true, false, false, false] rfl rfl (one_of HT_.out (by kernel_rfl)) (by decide) (fun K hK => ?_)
      refine goes_ Tryz.func11 (by kernel_rfl) rfl #[.agg #[.int .i64 ver, .slice A segs.length c]] (by rfl) rfl rfl (by (try simp only [List.map_toArray, List.map_cons, List.map_nil]); first | done | rfl) ?_
      refine (to_calls ver segs hsn A c w5 (Kd.C_below C2.out B5.out) HCC.out).mono ?_
      rintro e w6 ⟨A6, c6, rfl, h6, b6⟩
      refine ⟨_, rfl, ?_⟩
      have R6 := Aside0.mk h6
      have R56 := Aside0.mk (Kd.R_below R5.out b6)
      have B6 := Aside0.mk (B5.out.trans (b6.mono B5.out.size))
      clear h6 b6 R5
      refine hK.out _ _ B6.out (fun _ => ?_)
      clear hK K
      refine norm_ (a' := ?_) ?_ ?_
      rotate_left
      · show Act.put _ (some 37) _ = _
        simp only [Act.put, List.setIfInBounds_toArray, List.set_cons_zero, List.set_cons_succ, i64_w, i32_w]
        rfl
      obtain ⟨-, hc6, hC6⟩ := Kd.R_reads' R6.out
      rw [List.length_map] at hC6
      have HC6 := Aside0.mk hC6
      clear hC6
      refine one_ (i := 6) (N := some 38) #[true, true, true, true, true, true, true, false, false] rfl rfl (one_of HT_.out (by kernel_rfl)) (by decide) (fun K hK => ?_)
      refine goes_ Tryz.func10 (by kernel_rfl) rfl #[.slice An xs.length cn, .agg #[.int .i64 ver, .slice A6 segs.length c6]] (by rfl) rfl rfl (by (try simp only [List.map_toArray, List.map_cons, List.map_nil]); first | done | rfl) ?_
      refine (ref_Waste.calls ver A6 c6 segs An cn xs w6 HC6.out hc6 hsn (Kd.C_below XS2.out B6.out) HXC.out hxn (fun x hx => Nat.le_trans (HXS.out x hx) (by decide))).mono ?_
      rintro e w7 ⟨v7, rfl, h7, b7⟩
      refine ⟨_, rfl, ?_⟩
      obtain ⟨A7, c7, rfl⟩ := Kd.R_slice h7
      have R7 := Aside0.mk h7
      have R57 := Aside0.mk (Kd.R_below R56.out b7)
      have B7 := Aside0.mk (B6.out.trans (b7.mono B6.out.size))
      clear h7 b7 R56 R6 HC6 hc6
      refine hK.out _ _ B7.out (fun _ => ?_)
      clear hK K
      refine norm_ (a' := ?_) ?_ ?_
      rotate_left
      · show Act.put _ (some 38) _ = _
        simp only [Act.put, List.setIfInBounds_toArray, List.set_cons_zero, List.set_cons_succ, i64_w, i32_w]
        rfl
      have HE := Aside0.mk (waste_eq ver segs xs)
      have HLW := Aside0.mk (show (wasteL ver segs xs).length ≤ 1000000 by rw [HE.out]; have := (wasteR_all ver segs xs).2.1; omega)
      obtain ⟨q8, hq8⟩ := Ev.rounds (ev_Strings (wasteL ver segs xs) (wasteR ver segs xs) HLW.out)
      rw [decide_eq_true HE.out] at hq8
      generalize wasteL ver segs xs = Y1 at R57 hq8 HE HLW ⊢
      generalize wasteR ver segs xs = Y2 at R7 hq8 HE ⊢
      obtain ⟨-, hc57, hC57⟩ := Kd.R_reads' R57.out
      obtain ⟨-, hc7, hC7⟩ := Kd.R_reads' R7.out
      have HC57 := Aside0.mk hC57
      have HC7 := Aside0.mk hC7
      have HQ8 := Aside0.mk hq8
      clear hC57 hC7 hq8
      refine one_ (i := 7) (N := some 39) #[true, true, true, true, true, true, true, true, false] rfl rfl (one_of HT_.out (by kernel_rfl)) (by decide) (fun K hK => ?_)
      refine goes_ Tryz.func8 (by kernel_rfl) rfl #[.slice A5 Y1.length c5, .slice A7 Y2.length c7] (by rfl) rfl rfl (by (try simp only [List.map_toArray, List.map_cons, List.map_nil]); first | done | rfl) ?_
      refine (thwartref06_Strings.calls q8 A5 c5 Y1 A7 c7 Y2 true w7 HC57.out hc57 HC7.out hc7 HQ8.out).mono ?_
      rintro e w8 ⟨rfl, b8⟩
      refine ⟨_, rfl, ?_⟩
      have B8 := Aside0.mk (B7.out.trans (b8.below.mono B7.out.size))
      clear b8
      refine hK.out _ _ B8.out (fun _ => ?_)
      clear hK K
      refine norm_ (a' := ?_) ?_ ?_
      rotate_left
      · show Act.put _ (some 39) _ = _
        simp only [Act.put, List.setIfInBounds_toArray, List.set_cons_zero, List.set_cons_succ, i64_w, i32_w]
        rfl
      refine pure_ (i := 8) (N := some 7) (v := ?_) (a' := ?_) #[true, true, true, true, true, true, true, true, true] rfl rfl (any_of HT_.out (by kernel_rfl)) (fun _ _ _ h => h) (Or.inl ⟨by rfl, ?_⟩) ?_ ?_
      rotate_left
      · intro w'
        go_simp
        with_reducible rfl
      rotate_left
      · simp only [Act.put, List.setIfInBounds_toArray, List.set_cons_zero, List.set_cons_succ, i64_w, i32_w]
        rfl
      refine done_ (done_of HT_.out (by kernel_rfl)) ?_
      go_wp2_with fail
      go_ret
      exact ⟨rfl, B2.out.trans (B8.out.mono B2.out.size)⟩
/-! ### the row's reading -/
structure S25 where
  f0 : Int
  f1 : List S45
def z25 : S25 := ⟨(0 : Int), ([] : List S45)⟩
def k25 : Kd S25 := Kd.iso (Kd.pair (Kd.int .i64) (Kd.slice 45 k45)) (fun x : S25 => (x.f0, x.f1))
theorem k25_open {w : World} {x : S25} {cs : List Value} (h : k25.K w x cs) : ∃ A1 c1, cs = [.int .i64 x.f0, .slice A1 x.f1.length c1] ∧ x.f1.length ≤ c1 ∧ k45.C w A1 x.f1.length x.f1 := by
  obtain ⟨_, _, rfl, rfl, ⟨A1, c1, rfl, l1, g1⟩⟩ := h
  exact ⟨A1, c1, rfl, l1, g1⟩
theorem waste_wide (A0 : Option Addr) (n0 c0 : Nat) (l0 : List ByteArray) (a1 : S25) (cs1 : Array Value) (w : World) (K0 : (Kd.slice 9 Kd.string).K w l0 [.slice A0 n0 c0]) (y0 : n0 * 16 ≤ 140737488351232) (G0 : l0.length ≤ 9223372036854775807 ∧ ∀ e101 ∈ l0, e101.size ≤ 9223372036854775807)
    (K1 : k25.K w a1 cs1.toList) (hL : LaidW w) :
    Calls Tryz.prog 3 #[.slice A0 n0 c0, .agg cs1] w fun e w' => e = .returned (.bool true) ∧ Below w.heap.size w w' := by
  obtain ⟨A0_, c0_, e0, hc0, hr0⟩ := K0
  simp only [List.cons.injEq, Value.slice.injEq, and_true] at e0
  obtain ⟨rfl, rfl, rfl⟩ := e0
  obtain ⟨A, c, e1, hc, hC⟩ := k25_open K1
  replace e1 := congrArg List.toArray e1
  rw [Array.toArray_toList] at e1
  subst e1
  exact waste_walk _ _ l0 a1.f0 A c a1.f1 w hL hr0 hc0 hC hc
end Go.Proofs.YtlnbekaldemebaaGreatDoor.Thw
