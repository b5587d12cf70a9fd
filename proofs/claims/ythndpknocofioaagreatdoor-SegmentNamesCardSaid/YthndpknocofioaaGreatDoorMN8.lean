/- Several texts of mine in one (Ev08n, Ev08h). -/
import Derived.Test.YthndpknocofioaaGreatDoorMS8
import Derived.Test.YthndpknocofioaaGreatDoorME8
import Derived.Test.YthndpknocofioaaGreatDoorPrint23
/-! ## Layer 8: the document's names, and its number of a name. -/
namespace Go.Proofs.YthndpknocofioaaGreatDoor.Thw
open Go Go.RowKit Go.Proofs.YthndpknocofioaaGreatDoor.Print Go.Proofs.YthndpknocofioaaGreatDoorW.PrintWords Go.Proofs.YthndpknocofioaaGreatDoorW.PrintLast Go.Proofs.YthndpknocofioaaGreatDoorW.PrintMore
set_option linter.unusedVariables false
set_option linter.unusedSimpArgs false
theorem strOfNums_one (m : Nat) : strOfNums [(m : Int)] = B [UInt8.ofNat m] := L_inj (by rw [L_strOfNums, L_B]; simp)
theorem B_app (a b : Bs) : B a ++ B b = B (a ++ b) := L_inj (by simp [L, B])
theorem digs_step (i n : Nat) : UInt8.ofNat (48 + n / 10 ^ i % 10) :: digs i (n % 10 ^ i) = digs (i + 1) (n % 10 ^ (i + 1)) := by
  rw [digs]
  congr 1
  · congr 2
    rw [Nat.pow_succ, Nat.mod_mul_right_div_self]
  · congr 1
    rw [Nat.pow_succ, Nat.mod_mul_right_mod]
theorem dig_wrap (q : Nat) (hq : q ≤ 999999) : (wrap64 (48 + Int.tmod (q : Int) 10)) % 256 = ((48 + q % 10 : Nat) : Int) ∧ wrap64 (Int.tdiv (q : Int) 10) = ((q / 10 : Nat) : Int) := by
  have hm : Int.tmod (q : Int) 10 = ((q % 10 : Nat) : Int) := by
    rw [Int.tmod_eq_emod_of_nonneg (by omega)]
    omega
  have hv : Int.tdiv (q : Int) 10 = ((q / 10 : Nat) : Int) := by
    rw [Int.tdiv_eq_ediv_of_nonneg (by omega)]
    omega
  rw [hm, hv]
  generalize hr : q % 10 = r
  generalize hd : q / 10 = d
  have h1 : r < 10 := by omega
  have h2 : d ≤ 999999 := by omega
  clear hr hd hm hv
  refine ⟨?_, wrap64_in (by omega) (by omega)⟩
  rw [wrap64_in (by omega) (by omega)]
  omega
theorem ver_wrap (a : Int) (x : Nat) (h1 : -20000000000 ≤ a) (h2 : a ≤ 20000000000) (hx : x < 256) : wrap64 ((wrap64 ((wrap64 (10 * a)) + (wrap64 (x : Int)))) - 48) = 10 * a + (x : Int) - 48 := by
  have e1 : wrap64 (10 * a) = 10 * a := wrap64_in (by omega) (by omega)
  have e2 : wrap64 (x : Int) = (x : Int) := wrap64_in (by omega) (by omega)
  rw [e1, e2]
  have e3 : wrap64 (10 * a + (x : Int)) = 10 * a + (x : Int) := wrap64_in (by omega) (by omega)
  rw [e3]
  exact wrap64_in (by omega) (by omega)
theorem ev_digits (n : Nat) (hn : n ≤ 999999) : Ev (fun k => thwartref08_digits.f k (n : Int)) (B (six n)) := by
  have step : ∀ (d i : Nat), i + d = 6 → Ev (fun k => thwartref08_digits.l0 k ((n / 10 ^ i : Nat) : Int) (B (digs i (n % 10 ^ i))) (i : Int)) (B (six n)) := by
    intro d
    induction d with
    | zero =>
      intro i hi
      obtain rfl : i = 6 := by omega
      refine Ev.step (f := fun _ => some (B (digs 6 (n % 10 ^ 6)))) (fun k => ?_) ?_
      · rw [thwartref08_digits.l0, if_neg (by decide)]
      · rw [Nat.mod_eq_of_lt (by omega)]
        exact ev_some fun _ => rfl
    | succ d ih =>
      intro i hi
      have ih' := ih (i + 1) (by omega)
      have hp := pow_pos10 i
      have hle : n / 10 ^ i ≤ n := Nat.div_le_self _ _
      have hdd : n / 10 ^ i / 10 = n / 10 ^ (i + 1) := by rw [Nat.pow_succ, Nat.div_div_eq_div_mul]
      have hst := digs_step i n
      have hl := digs_length i (n % 10 ^ i)
      generalize digs i (n % 10 ^ i) = ds at hst hl ⊢
      rw [← hst, ← hdd] at ih'
      generalize n / 10 ^ i = q at hle hdd ih' ⊢
      have c1 : (i : Int) < 6 := by omega
      have c2 : (B [UInt8.ofNat (48 + q % 10)]).size + (B ds).size ≤ 9223372036854775807 := by rw [B_size, B_size, List.length_singleton, hl]; omega
      obtain ⟨hw, hw2⟩ := dig_wrap q (Nat.le_trans hle hn)
      have hi1 : wrap64 ((i : Int) + 1) = ((i + 1 : Nat) : Int) := by rw [wrap64_in (by omega) (by omega)]; omega
      refine Ev.step (f := fun k => thwartref08_digits.l0 k ((q / 10 : Nat) : Int) (B (UInt8.ofNat (48 + q % 10) :: ds)) ((i + 1 : Nat) : Int)) (fun k => ?_) ih'
      rw [thwartref08_digits.l0, if_pos c1]
      simp only [Option.bind_some]
      rw [hw, hw2, hi1, strOfNums_one, if_pos c2, B_app]
      rfl
  have h0 := step 6 0 (by omega)
  unfold thwartref08_digits.f
  have e0 : n / 10 ^ 0 = n := by simp
  rw [e0] at h0
  exact h0
theorem right_f (n : Int) : thwartref08_right.f n = some (rightN n) := by
  unfold thwartref08_right.f rightN
  by_cases h : 0 ≤ n <;> simp [h]
theorem ev_rName (n : Int) (hn : -9223372036854775808 ≤ n ∧ n ≤ 9223372036854775807) : Ev (fun k => thwartref08_Name.f k n) (nameB 115 n 0) := by
  unfold thwartref08_Name.f
  rw [right_f]
  cases hr : rightN n with
  | false =>
    have e : nameB 115 n 0 = ⟨#[]⟩ := by
      unfold nameB nameL
      rw [if_pos (by unfold rightN at hr; simp at hr; omega)]
      rfl
    rw [e]
    exact ev_some fun _ => rfl
  | true =>
    have h1 : 0 ≤ n ∧ n ≤ 999999 := by unfold rightN at hr; simp at hr; exact hr
    have e : nameB 115 n 0 = B (115 :: six n.toNat) := by
      unfold nameB nameL
      rw [if_neg (by omega)]
    rw [e]
    obtain ⟨m, rfl⟩ : ∃ m : Nat, n = (m : Int) := ⟨n.toNat, by omega⟩
    simp only [Option.bind_some, if_true]
    refine Ev.bind (ev_digits m (by omega)) ?_
    refine ev_if_pos (by rw [B_size, six_length]; decide) (ev_some fun _ => ?_)
    rw [show (⟨#[115]⟩ : ByteArray) = B [115] from rfl, B_app]
    rfl
theorem ev_rHints (n : Int) (hn : -9223372036854775808 ≤ n ∧ n ≤ 9223372036854775807) : Ev (fun k => thwartref08_Hints.f k n) (nameB 104 n 0) := by
  unfold thwartref08_Hints.f
  rw [right_f]
  cases hr : rightN n with
  | false =>
    have e : nameB 104 n 0 = ⟨#[]⟩ := by
      unfold nameB nameL
      rw [if_pos (by unfold rightN at hr; simp at hr; omega)]
      rfl
    rw [e]
    exact ev_some fun _ => rfl
  | true =>
    have h1 : 0 ≤ n ∧ n ≤ 999999 := by unfold rightN at hr; simp at hr; exact hr
    have e : nameB 104 n 0 = B (104 :: six n.toNat) := by
      unfold nameB nameL
      rw [if_neg (by omega)]
    rw [e]
    obtain ⟨m, rfl⟩ : ∃ m : Nat, n = (m : Int) := ⟨n.toNat, by omega⟩
    simp only [Option.bind_some, if_true]
    refine Ev.bind (ev_digits m (by omega)) ?_
    refine ev_if_pos (by rw [B_size, six_length]; decide) (ev_some fun _ => ?_)
    rw [show (⟨#[104]⟩ : ByteArray) = B [104] from rfl, B_app]
    rfl
/-- The number that six bytes spell, digits or not. -/
def foldV (l : Bs) (a : Int) : Int := l.foldl (fun a b => 10 * a + (b.toNat : Int) - 48) a
theorem foldV_digs : ∀ (k n : Nat) (a : Int), n < 10 ^ k → foldV (digs k n) a = a * ((10 ^ k : Nat) : Int) + (n : Int)
  | 0, n, a, h => by
    have : n = 0 := by simpa using h
    subst this
    simp [foldV, digs]
  | k + 1, n, a, h => by
    have hq : n / 10 ^ k < 10 := by
      rw [Nat.pow_succ] at h
      exact Nat.div_lt_of_lt_mul h
    have hd := digit_nat hq
    have h2 := foldV_digs k (n % 10 ^ k) (10 * a + ((48 + n / 10 ^ k : Nat) : Int) - 48) (Nat.mod_lt _ (pow_pos10 k))
    have h3 := Nat.div_add_mod n (10 ^ k)
    unfold foldV at h2 ⊢
    rw [digs, List.foldl_cons, hd, h2]
    rw [Nat.pow_succ]
    generalize n % 10 ^ k = r at *
    generalize n / 10 ^ k = q at *
    generalize 10 ^ k = t at *
    have h3' : (n : Int) = (t : Int) * (q : Int) + (r : Int) := by
      have := congrArg (fun x : Nat => (x : Int)) h3
      simp only [Int.natCast_add, Int.natCast_mul] at this
      omega
    rw [h3']
    have e1 : ((48 + q : Nat) : Int) = 48 + (q : Int) := by omega
    have e2 : ((t * 10 : Nat) : Int) = (t : Int) * 10 := by omega
    rw [e1, e2]
    have e3 : (10 * a + (48 + (q : Int)) - 48) * (t : Int) = a * ((t : Int) * 10) + (t : Int) * (q : Int) := by
      have : 10 * a + (48 + (q : Int)) - 48 = 10 * a + q := by omega
      rw [this, Int.add_mul, Int.mul_comm 10 a, Int.mul_assoc, Int.mul_comm 10 (t : Int), Int.mul_comm (q : Int)]
    rw [e3, Int.add_assoc]
theorem foldV_bound : ∀ (l : Bs) (a B : Int), -B ≤ a → a ≤ B → 300 ≤ B → -(B * ((20 ^ l.length : Nat) : Int)) ≤ foldV l a ∧ foldV l a ≤ B * ((20 ^ l.length : Nat) : Int)
  | [], a, B, h1, h2, h3 => by
    simp [foldV]
    omega
  | x :: l, a, B, h1, h2, h3 => by
    have hx := x.toNat_lt
    have h := foldV_bound l (10 * a + (x.toNat : Int) - 48) (20 * B) (by omega) (by omega) (by omega)
    have e : (20 * B) * ((20 ^ l.length : Nat) : Int) = B * ((20 ^ (x :: l).length : Nat) : Int) := by
      rw [List.length_cons, Nat.pow_succ, Int.natCast_mul, Int.mul_comm 20 B, Int.mul_assoc]
      congr 1
      rw [Int.mul_comm]
      rfl
    rw [e] at h
    exact h
theorem foldV_snoc (l : Bs) (x : UInt8) (a : Int) : foldV (l ++ [x]) a = 10 * foldV l a + (x.toNat : Int) - 48 := by
  unfold foldV
  rw [List.foldl_append]
  rfl
theorem ev_rNumber (s : ByteArray) (hs : s.size ≤ 1000) : ∃ r, segO s r ∧ Ev (fun k => thwartref08_Number.f k s) r := by
  obtain ⟨l, hl⟩ : ∃ l, ((L s).drop 1).take 6 = l := ⟨_, rfl⟩
  have hll : l.length ≤ 6 := by rw [← hl, List.length_take]; omega
  have hln : l.length = min 6 (s.size - 1) := by rw [← hl, List.length_take, List.length_drop, L_length]
  have hls : ∀ i : Nat, i < l.length → ((i + 1 : Nat) : Int) < (s.size : Int) := fun i h => by omega
  have hl7 : ∀ i : Nat, i < l.length → ((i + 1 : Nat) : Int) < 7 := fun i h => by omega
  have hend : ¬ ((l.length + 1 : Nat) : Int) < (s.size : Int) ∨ ¬ ((l.length + 1 : Nat) : Int) < 7 := by omega
  have hnext : ∀ i : Nat, i < l.length → wrap64 (((i + 1 : Nat) : Int) + 1) = ((i + 1 + 1 : Nat) : Int) := fun i h => by rw [wrap64_in (by omega) (by omega)]; omega
  have hb : ∀ i, i ≤ 6 → -(300 * 64000000) ≤ foldV (l.take i) 0 ∧ foldV (l.take i) 0 ≤ 300 * 64000000 := by
    intro i hi
    have h := foldV_bound (l.take i) 0 300 (by omega) (by omega) (by omega)
    have h2 : (20 : Nat) ^ (l.take i).length ≤ 20 ^ 6 := Nat.pow_le_pow_right (by decide) (by rw [List.length_take]; omega)
    have h3 : (20 : Nat) ^ 6 = 64000000 := by decide
    rw [h3] at h2
    generalize 20 ^ (l.take i).length = z at h h2
    omega
  have hV := hb l.length hll
  rw [List.take_length] at hV
  obtain ⟨V, hVe⟩ : ∃ V, foldV l 0 = V := ⟨_, rfl⟩
  rw [hVe] at hV
  obtain ⟨r, hr, hev⟩ : ∃ r, segO s r ∧ Ev (fun k => if s.toList = ([] : List UInt8) then (some ((0 : Int), false)) else ((thwartref08_Name.f k V).bind fun t => (if t.toList = s.toList then (some (V, true)) else (some (0, false))))) r := by
    have hname := ev_rName V ⟨by omega, by omega⟩
    by_cases he : s.toList = []
    · refine ⟨(0, false), Or.inr ⟨fun n hn => ?_, rfl⟩, ev_if_pos he (ev_some fun _ => rfl)⟩
      rw [Lib.toList_data] at he
      have := hn.2
      unfold L at this
      rw [he] at this
      cases this
    · by_cases hq : (nameB 115 V 0).toList = s.toList
      · have hs2 : nameL 115 V 0 = L s := by
          rw [Lib.toList_data, Lib.toList_data] at hq
          unfold nameB at hq
          have h9 : L (B (nameL 115 V 0)) = L s := hq
          rwa [L_B] at h9
        obtain ⟨h1, h2⟩ := name_isN (by intro h0; apply he; rw [Lib.toList_data]; exact h0) hs2
        refine ⟨(V, true), Or.inl ⟨V.toNat, h1, by rw [Int.toNat_of_nonneg h2]⟩, ev_if_neg he (Ev.bind hname (ev_if_pos hq (ev_some fun _ => rfl)))⟩
      · refine ⟨(0, false), Or.inr ⟨fun n hn => hq ?_, rfl⟩, ev_if_neg he (Ev.bind hname (ev_if_neg hq (ev_some fun _ => rfl)))⟩
        have hl2 : l = six n := by
          rw [← hl, hn.2]
          simp [List.take_of_length_le (Nat.le_of_eq (six_length n))]
        have hVn : V = (n : Int) := by
          rw [← hVe, hl2]
          have := foldV_digs 6 n 0 (by have := hn.1; omega)
          unfold six
          rw [this]
          simp
        have h5 := isN_name hn
        rw [hVn, Lib.toList_data, Lib.toList_data]
        unfold nameB
        rw [h5]
        have h6 : L (B (L s)) = L s := L_B _
        exact h6
  refine ⟨r, hr, ?_⟩
  have step : ∀ (d i : Nat), i + d = l.length → Ev (fun k => thwartref08_Number.l0 k s (foldV (l.take i) 0) ((i + 1 : Nat) : Int)) r := by
    intro d
    induction d with
    | zero =>
      intro i hi
      obtain rfl : i = l.length := by omega
      rw [List.take_length, hVe]
      refine Ev.step (f := fun k => if s.toList = ([] : List UInt8) then (some ((0 : Int), false)) else ((thwartref08_Name.f k V).bind fun t => (if t.toList = s.toList then (some (V, true)) else (some (0, false))))) (fun k => ?_) hev
      rw [thwartref08_Number.l0]
      by_cases h1 : ((l.length + 1 : Nat) : Int) < (s.size : Int)
      · rw [if_pos h1, if_neg (hend.resolve_left (fun h => h h1))]
      · rw [if_neg h1]
    | succ d ih =>
      intro i hi
      have hlt : i < l.length := by omega
      have ih' := ih (i + 1) (by omega)
      rw [List.take_succ_eq_append_getElem hlt, foldV_snoc] at ih'
      have hbt : bt s ((i + 1 : Nat) : Int) = (l[i].toNat : Int) := by
        have hlt2 : i + 1 < (L s).length := by rw [L_length]; omega
        rw [bt_L s (i + 1) hlt2]
        have : l[i] = (L s)[i + 1] := by
          simp only [← hl, List.getElem_take, List.getElem_drop]
          congr 1
          omega
        rw [this]
      have hx := (l[i]).toNat_lt
      have hb1 := hb i (by omega)
      generalize foldV (l.take i) 0 = acc at ih' hb1 ⊢
      generalize (l[i]).toNat = x at hx hbt ih'
      have hi1 := hnext i hlt
      have c1 := hls i hlt
      have c2 := hl7 i hlt
      have c3 : (0 : Int) ≤ ((i + 1 : Nat) : Int) := Int.natCast_nonneg _
      have hw : wrap64 ((wrap64 ((wrap64 (10 * acc)) + (wrap64 (bt s ((i + 1 : Nat) : Int))))) - 48) = 10 * acc + (x : Int) - 48 := by
        rw [hbt]
        exact ver_wrap acc x (by have := hb1.1; omega) (by have := hb1.2; omega) hx
      refine Ev.step (f := fun k => thwartref08_Number.l0 k s (10 * acc + (x : Int) - 48) ((i + 1 + 1 : Nat) : Int)) (fun k => ?_) ih'
      rw [thwartref08_Number.l0, if_pos c1, if_pos c2, if_pos c3, hw, hi1]
  have h0 := step l.length 0 (by omega)
  unfold thwartref08_Number.f
  exact h0
theorem segO_uniq {s : ByteArray} {r r' : Int × Bool} (h : segO s r) (h' : segO s r') : r = r' := by
  rcases h with ⟨n, h1, rfl⟩ | ⟨h1, rfl⟩ <;> rcases h' with ⟨m, h2, rfl⟩ | ⟨h2, rfl⟩
  · rw [h1.uniq h2]
  · exact absurd h1 (h2 n)
  · exact absurd h2 (h1 m)
  · rfl
end Go.Proofs.YthndpknocofioaaGreatDoor.Thw
/-! ## Layer 8 (segment): SegmentNames' walk. -/
namespace Go.Proofs.YthndpknocofioaaGreatDoor.Thw
open Go Go.RowKit Go.Maps Go.Proofs.YthndpknocofioaaGreatDoor.Print Go.Proofs.YthndpknocofioaaGreatDoorW.PrintWords Go.Proofs.YthndpknocofioaaGreatDoorW.PrintLast Go.Proofs.YthndpknocofioaaGreatDoorW.PrintMore
set_option linter.unusedVariables false
set_option linter.unusedSimpArgs false
theorem num_right {n : Int} (h : rightN n = true) {r : Int × Bool} (hr : segO (nameB 115 n 0) r) : r = (n, true) := by
  have h1 : 0 ≤ n ∧ n ≤ 999999 := by unfold rightN at h; simp at h; exact h
  obtain ⟨m, rfl⟩ : ∃ m : Nat, n = (m : Int) := ⟨n.toNat, by omega⟩
  rw [segO_num hr, name_num m (by omega)]
theorem num_wrong {n : Int} (h : rightN n = false) {r : Int × Bool} (hr : segO (nameB 115 n 0) r) : r = (0, false) := by
  have e : nameB 115 n 0 = ⟨#[]⟩ := by
    unfold nameB nameL
    rw [if_pos (by unfold rightN at h; simp at h; omega)]
    rfl
  rw [segO_num hr, e]
  rfl
set_option maxHeartbeats 6400000 in
set_option maxRecDepth 100000 in
theorem names_walk (n : Int) (s : ByteArray) (hn : -9223372036854775808 ≤ n ∧ n ≤ 9223372036854775807) (w : World) (hL : LaidW w) :
    Calls Tryz.prog 3 #[.int .i64 n, .string s] w fun e w' => e = .returned (.bool true) ∧ Below w.heap.size w w' := by
  have HL := Aside0.mk hL
  clear hL
  go_enter Tryz.func3, Tryz.ntmps3
  go_wp2_with fail
  refine (awake08.calls _ HL.out).mono ?_
  rintro e w1 ⟨rfl, b1⟩
  have B1 := Aside0.mk b1
  clear b1
  by_cases h1 : 100 < s.size
  · have d1 : decide ((100 : Int) < (s.size : Int)) = true := decide_eq_true (by omega)
    go_wp2_with fail
    go_ret
    exact ⟨rfl, B1.out⟩
  have d1 : decide ((100 : Int) < (s.size : Int)) = false := decide_eq_false (by omega)
  have hs : s.size ≤ 100 := by omega
  obtain ⟨r, hr, hev⟩ := ev_rNumber s (by omega)
  obtain ⟨q1, hq1⟩ := Ev.rounds hev
  obtain ⟨q3, hq3⟩ := Ev.rounds (ev_rName n hn)
  obtain ⟨q4, hq4⟩ := Ev.rounds (ev_rHints n hn)
  have HR := Aside0.mk hr
  have HQ1 := Aside0.mk hq1
  have HQ3 := Aside0.mk hq3
  have HQ4 := Aside0.mk hq4
  clear hr hev hq1 hq3 hq4
  have HSZ := Aside0.mk (show s.size ≤ 1000000 by omega)
  go_wp2_with fail
  refine (seg_Number.calls s HSZ.out _ (HL.out.below B1.out)).mono ?_
  rintro e w2 ⟨⟨r', hr', rfl⟩, b2⟩
  obtain rfl := segO_uniq hr' HR.out
  have B2 := Aside0.mk (B1.out.trans (b2.mono B1.out.size))
  clear b2 hr'
  obtain ⟨rn, rb⟩ := r'
  go_wp2_with fail
  refine (thwartref08_Number.calls q1 s _ _ _ HQ1.out).mono ?_
  rintro e w3 ⟨rfl, b3⟩
  have B3 := Aside0.mk (B2.out.trans (b3.mono B2.out.size))
  clear b3
  go_wp2_with fail
  refine (seg_Name.calls n hn _ (HL.out.below B3.out)).mono ?_
  rintro e w4 ⟨rfl, b4⟩
  have B4 := Aside0.mk (B3.out.trans (b4.mono B3.out.size))
  clear b4
  go_wp2_with fail
  refine (seg_Number.calls (nameB 115 n 0) (by have := nameB_size 115 n 0; omega) _ (HL.out.below B4.out)).mono ?_
  rintro e w5 ⟨⟨r5, hr5, rfl⟩, b5⟩
  have B5 := Aside0.mk (B4.out.trans (b5.mono B4.out.size))
  clear b5
  have H5 := Aside0.mk hr5
  clear hr5
  obtain ⟨nm, hnm⟩ : ∃ x, nameB 115 n 0 = x := ⟨_, rfl⟩
  obtain ⟨om, hom⟩ : ∃ x, nameB 104 n 0 = x := ⟨_, rfl⟩
  have HNM := Aside0.mk hnm
  have HOM := Aside0.mk hom
  have hrr : (rb == rb) = true := beq_self_eq_true _
  have hnn : (rn == rn) = true := beq_self_eq_true _
  rw [hnm] at HQ3
  rw [hom] at HQ4
  try rw [hnm]
  have key : ∀ (r5 : Int × Bool) (inn : Bool), Aside0 (r5 = if inn = true then (n, true) else (0, false)) → Aside0 (inn = (decide (0 ≤ n) && decide (n ≤ 999999))) → True := fun _ _ _ _ => trivial
  clear key
  cases hg : rightN n with
  | true =>
    obtain rfl := num_right hg H5.out
    have h2 : 0 ≤ n ∧ n ≤ 999999 := by unfold rightN at hg; simp at hg; exact hg
    have d2 : decide (0 ≤ n) = true := decide_eq_true h2.1
    have d3 : decide (n ≤ 999999) = true := decide_eq_true h2.2
    have d4 : (n == n) = true := beq_self_eq_true _
    clear hnm hom hg
    go_wp2_with fail
    refine (seg_Name.calls n hn _ (HL.out.below B5.out)).mono ?_
    rintro e w8 ⟨rfl, b8⟩
    rw [HNM.out]
    have B8 := Aside0.mk (B5.out.trans (b8.mono B5.out.size))
    clear b8
    go_wp2_with fail
    refine (thwartref08_Name.calls q3 n _ _ HQ3.out).mono ?_
    rintro e w9 ⟨rfl, b9⟩
    have B9 := Aside0.mk (B8.out.trans (b9.mono B8.out.size))
    clear b9
    go_wp2_with fail
    refine (seg_Hints.calls n hn _ (HL.out.below B9.out)).mono ?_
    rintro e wa ⟨rfl, ba⟩
    rw [HOM.out]
    have Ba := Aside0.mk (B9.out.trans (ba.mono B9.out.size))
    clear ba
    go_wp2_with fail
    refine (thwartref08_Hints.calls q4 n _ _ HQ4.out).mono ?_
    rintro e wb ⟨rfl, bb⟩
    have Bb := Aside0.mk (Ba.out.trans (bb.mono Ba.out.size))
    clear bb
    go_wp2_with fail
    go_ret
    exact ⟨rfl, Bb.out⟩
  | false =>
    obtain rfl := num_wrong hg H5.out
    have h2 : (decide (0 ≤ n) && decide (n ≤ 999999)) = false := hg
    clear hnm hom hg
    by_cases h3 : 0 ≤ n
    · have d2 : decide (0 ≤ n) = true := decide_eq_true h3
      have d3 : decide (n ≤ 999999) = false := by rw [d2] at h2; simpa using h2
      clear h2
      go_wp2_with fail
      refine (seg_Name.calls n hn _ (HL.out.below B5.out)).mono ?_
      rintro e w8 ⟨rfl, b8⟩
      rw [HNM.out]
      have B8 := Aside0.mk (B5.out.trans (b8.mono B5.out.size))
      clear b8
      go_wp2_with fail
      refine (thwartref08_Name.calls q3 n _ _ HQ3.out).mono ?_
      rintro e w9 ⟨rfl, b9⟩
      have B9 := Aside0.mk (B8.out.trans (b9.mono B8.out.size))
      clear b9
      go_wp2_with fail
      refine (seg_Hints.calls n hn _ (HL.out.below B9.out)).mono ?_
      rintro e wa ⟨rfl, ba⟩
      rw [HOM.out]
      have Ba := Aside0.mk (B9.out.trans (ba.mono B9.out.size))
      clear ba
      go_wp2_with fail
      refine (thwartref08_Hints.calls q4 n _ _ HQ4.out).mono ?_
      rintro e wb ⟨rfl, bb⟩
      have Bb := Aside0.mk (Ba.out.trans (bb.mono Ba.out.size))
      clear bb
      go_wp2_with fail
      go_ret
      exact ⟨rfl, Bb.out⟩
    · have d2 : decide (0 ≤ n) = false := decide_eq_false h3
      clear h2
      go_wp2_with fail
      refine (seg_Name.calls n hn _ (HL.out.below B5.out)).mono ?_
      rintro e w8 ⟨rfl, b8⟩
      rw [HNM.out]
      have B8 := Aside0.mk (B5.out.trans (b8.mono B5.out.size))
      clear b8
      go_wp2_with fail
      refine (thwartref08_Name.calls q3 n _ _ HQ3.out).mono ?_
      rintro e w9 ⟨rfl, b9⟩
      have B9 := Aside0.mk (B8.out.trans (b9.mono B8.out.size))
      clear b9
      go_wp2_with fail
      refine (seg_Hints.calls n hn _ (HL.out.below B9.out)).mono ?_
      rintro e wa ⟨rfl, ba⟩
      rw [HOM.out]
      have Ba := Aside0.mk (B9.out.trans (ba.mono B9.out.size))
      clear ba
      go_wp2_with fail
      refine (thwartref08_Hints.calls q4 n _ _ HQ4.out).mono ?_
      rintro e wb ⟨rfl, bb⟩
      have Bb := Aside0.mk (Ba.out.trans (bb.mono Ba.out.size))
      clear bb
      go_wp2_with fail
      go_ret
      exact ⟨rfl, Bb.out⟩
end Go.Proofs.YthndpknocofioaaGreatDoor.Thw
