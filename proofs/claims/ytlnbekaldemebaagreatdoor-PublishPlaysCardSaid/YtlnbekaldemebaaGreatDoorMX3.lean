/- Several texts of mine in one (Ev02r, Ev12g, Ev12i). -/
import Derived.Test.YtlnbekaldemebaaGreatDoorPrint13
import Derived.Test.YtlnbekaldemebaaGreatDoorPrint14
import Derived.Test.YtlnbekaldemebaaGreatDoorME3
import Derived.Test.YtlnbekaldemebaaGreatDoorPrint11
import Derived.Test.YtlnbekaldemebaaGreatDoorPrint17
/-! ## Layer 2, the references: they come to the same plain words. -/
namespace Go.Proofs.YtlnbekaldemebaaGreatDoor.Thw
open Go Go.RowKit Go.Proofs.YtlnbekaldemebaaGreatDoor.Print Go.Proofs.YtlnbekaldemebaaGreatDoorW.PrintWords Go.Proofs.YtlnbekaldemebaaGreatDoorW.PrintLast Go.Proofs.YtlnbekaldemebaaGreatDoorW.PrintMore
set_option linter.unusedVariables false
set_option linter.unusedSimpArgs false

theorem rstep_N (c : Nat) (h : c < 4294967296) : thwartref02_step.f (c : Int) = some ((stepN c : Nat) : Int) := by
 have e1 : Int.tmod (c : Int) 2 = ((c % 2 : Nat) : Int) := by rw [Int.tmod_eq_emod_of_nonneg (by omega)]; omega
 have e2 : (Int.tdiv (c : Int) 2) % 4294967296 = ((c / 2 : Nat) : Int) := by rw [Int.tdiv_eq_ediv_of_nonneg (by omega)]; omega
 unfold thwartref02_step.f stepN
 rw [e1, e2]
 rcases Nat.mod_two_eq_zero_or_one c with h3 | h3
 ·rw [h3, if_neg (by decide), if_neg (by omega), Nat.xor_zero]
 ·rw [h3, if_pos (by decide), if_pos rfl, show (2197175160 : Int) = ((2197175160 : Nat) : Int) from rfl, xor_u32 _ _ (by omega) (by omega)]
  unfold polyN
  exact Eq.refl _
theorem ev_rin (b : ByteArray) (i : Nat) (r : Int) : ∀ (d n c : Nat), n + d = 8 → c < 4294967296 → Ev (fun k => thwartref02_More.l0 k b ((stepsN d c : Nat) : Int) (wrap64 ((i : Int) + 1))) r →
  Ev (fun k => thwartref02_More.l1 k b (c : Int) (i : Int) (n : Int)) r
 | 0, n, c, e, h, k0 => by
  refine Ev.step (f := fun k => thwartref02_More.l0 k b (c : Int) (wrap64 ((i : Int) + 1))) (fun k => ?_) k0
  simp only [thwartref02_More.l1]
  rw [if_neg (by omega)]
 | d + 1, n, c, e, h, k0 => by
  have hst : stepsN d (stepN c) = stepsN (d + 1) c := by
   clear k0 e
   induction d with
   | zero => rfl
   | succ d ih => rw [stepsN, ih]; rfl
  refine Ev.step (f := fun k => thwartref02_More.l1 k b ((stepN c : Nat) : Int) (i : Int) ((n + 1 : Nat) : Int)) (fun k => ?_) (ev_rin b i r d (n + 1) (stepN c) (by omega) (stepN_lt c h) (by rw [hst]; exact k0))
  simp only [thwartref02_More.l1]
  rw [if_pos (by omega), rstep_N c h, Option.bind_some, wrap64_in (n := (n : Int) + 1) (by omega) (by omega)]
  exact Eq.refl _
theorem ev_rmore (b : ByteArray) (hb : b.size ≤ 4611686018427387904) : ∀ (d i c : Nat), i + d = (L b).length → c < 4294967296 →
  Ev (fun k => thwartref02_More.l0 k b (c : Int) (i : Int)) ((ones ^^^ moreN ((L b).drop i) c : Nat) : Int)
 | 0, i, c, e, h => by
  have hl := L_length b
  refine Ev.step (f := fun k => some ((ones ^^^ c : Nat) : Int)) (fun k => ?_) ?_
  ·simp only [thwartref02_More.l0]
   rw [if_neg (by omega), u32_max, xor_u32 _ _ ones_lt h]
  ·rw [List.drop_of_length_le (by omega), moreN_nil]
   exact Ev.now _
 | d + 1, i, c, e, h => by
  have hl := L_length b
  have hi : i < (L b).length := by omega
  have hx := (L b)[i].toNat_lt
  have hlt : c ^^^ (L b)[i].toNat < 4294967296 := Nat.xor_lt_two_pow (n := 32) (by simpa using h) (by omega)
  rw [drop_at _ _ hi, moreN_cons]
  refine Ev.step (f := fun k => thwartref02_More.l1 k b ((c ^^^ (L b)[i].toNat : Nat) : Int) (i : Int) ((0 : Nat) : Int)) (fun k => ?_) (ev_rin b i _ 8 0 _ rfl hlt ?_)
  ·simp only [thwartref02_More.l0]
   rw [if_pos (by omega), if_pos (by omega), bt_L b i hi, show (((L b)[i].toNat : Int) % 4294967296) = ((L b)[i].toNat : Int) by omega, xor_u32 _ _ h (by omega)]
   exact Eq.refl _
  ·rw [wrap64_in (by omega) (by omega)]
   have := ev_rmore b hb d (i + 1) (byteN c (L b)[i].toNat) (by omega) (byteN_lt c _ h hx)
   exact this
theorem ev_rMore (s : Nat) (b : ByteArray) (hs : s < 4294967296) (hb : b.size ≤ 4611686018427387904) : Ev (fun k => thwartref02_More.f k (s : Int) b) ((moreS s (L b) : Nat) : Int) := by
 have h1 : ones ^^^ s < 4294967296 := Nat.xor_lt_two_pow (n := 32) ones_lt (by simpa using hs)
 have := ev_rmore b hb (L b).length 0 _ (by omega) h1
 rw [List.drop_zero] at this
 unfold thwartref02_More.f moreS
 rw [u32_max, xor_u32 _ _ ones_lt hs]
 exact this
theorem ev_rSum2 (b : ByteArray) (hb : b.size ≤ 4611686018427387904) : Ev (fun k => thwartref02_Sum.f k b) ((sumS2 (L b) : Nat) : Int) := by
 unfold thwartref02_Sum.f
 exact Ev.bind (ev_rMore 0 b (by omega) hb) (Ev.now _)
theorem ev_rSeal (b : ByteArray) (hb : b.size ≤ 4611686018427387904) : Ev (fun k => thwartref02_Seal.f k b) (B (sealS (L b))) := by
 unfold thwartref02_Seal.f
 refine Ev.bind (ev_rSum2 b hb) ?_
 refine ev_bind_now rfl ?_
 have e : strOfNums [(((sumS2 (L b) : Nat) : Int)) % 256, (((sumS2 (L b) : Nat) : Int) / 256) % 256, (((sumS2 (L b) : Nat) : Int) / 65536) % 256, (((sumS2 (L b) : Nat) : Int) / 16777216) % 256] = B (le4 (sumS2 (L b))) := L_inj (by rw [L_B]; exact L_seal4 _)
 rw [e]
 simp only [B_size, le4_length]
 refine ev_if_pos (by omega) ?_
 exact ev_some fun k => congrArg some (L_inj (by rw [L_append, L_B, L_B]; rfl))
theorem ev_rOpen (b : ByteArray) (hb : b.size ≤ 4611686018427387904) : Ev (fun k => thwartref02_Open.f k b) (B (openS (L b)).1, (openS (L b)).2) := by
 have hl := L_length b
 unfold thwartref02_Open.f openS
 by_cases h : (L b).length < 4
 ·rw [if_pos h]; exact ev_if_pos (by omega) (Ev.now _)
 rw [if_neg h]
 refine ev_if_neg (by omega) ?_
 refine ev_if_pos (by omega) ?_
 refine Ev.bind (ev_rSeal _ (by rw [extract_end, B_size, List.length_drop]; omega)) ?_
 simp only [toList_L, L_B, extract_end]
 have e : (sealS ((L b).drop 4) = L b) ↔ ((sealS ((L b).drop 4)).take 4 = (L b).take 4) := by
  constructor
  ·intro h2; rw [h2]
  ·intro h2
   conv => rhs; rw [← List.take_append_drop 4 (L b), ← h2, sealS_take]
   rfl
 by_cases h2 : (sealS ((L b).drop 4)).take 4 = (L b).take 4
 ·rw [if_pos h2]; exact ev_if_pos (e.2 h2) (Ev.now _)
 ·rw [if_neg h2]; exact ev_if_neg (fun h3 => h2 (e.1 h3)) (Ev.now _)
end Go.Proofs.YtlnbekaldemebaaGreatDoor.Thw
/-! ## Layer 12: the document's names, and its version of a name. -/
namespace Go.Proofs.YtlnbekaldemebaaGreatDoor.Thw
open Go Go.RowKit Go.Proofs.YtlnbekaldemebaaGreatDoor.Print Go.Proofs.YtlnbekaldemebaaGreatDoorW.PrintWords Go.Proofs.YtlnbekaldemebaaGreatDoorW.PrintLast Go.Proofs.YtlnbekaldemebaaGreatDoorW.PrintMore
set_option linter.unusedVariables false
set_option linter.unusedSimpArgs false
theorem strOfNums_one (m : Nat) : strOfNums [(m : Int)] = B [UInt8.ofNat m] := L_inj (by rw [L_strOfNums, L_B]; simp)
theorem B_app (a b : Bs) : B a ++ B b = B (a ++ b) := L_inj (by simp [L, B])
theorem digs_step (i n : Nat) : UInt8.ofNat (48 + n / 10 ^ i % 10) :: digs i (n % 10 ^ i) = digs (i + 1) (n % 10 ^ (i + 1)) := by
 rw [digs]
 congr 1
 ·congr 2
  rw [Nat.pow_succ, Nat.mod_mul_right_div_self]
 ·congr 1
  rw [Nat.pow_succ, Nat.mod_mul_right_mod]
theorem dig_wrap (q : Nat) (hq : q ≤ 999999) : (wrap64 (48 + Int.tmod (q : Int) 10)) % 256 = ((48 + q % 10 : Nat) : Int) ∧ wrap64 (Int.tdiv (q : Int) 10) = ((q / 10 : Nat) : Int) := by
 have hm : Int.tmod (q : Int) 10 = ((q % 10 : Nat) : Int) := by
  rw [Int.tmod_eq_emod_of_nonneg (by omega)]
  omega
 have hv : Int.tdiv (q : Int) 10 = ((q / 10 : Nat) : Int) := by
  rw [Int.tdiv_eq_ediv_of_nonneg (by omega)]
  omega
 rw [hm, hv]
 generalize hr : q % 10 = r
 generalize hd : q / 10 = d
 have h1 : r < 10 := by omega
 have h2 : d ≤ 999999 := by omega
 clear hr hd hm hv
 refine ⟨?_, wrap64_in (by omega) (by omega)⟩
 rw [wrap64_in (by omega) (by omega)]
 omega
theorem ver_wrap (a : Int) (x : Nat) (h1 : -20000000000 ≤ a) (h2 : a ≤ 20000000000) (hx : x < 256) : wrap64 ((wrap64 ((wrap64 (10 * a)) + (wrap64 (x : Int)))) - 48) = 10 * a + (x : Int) - 48 := by
 have e1 : wrap64 (10 * a) = 10 * a := wrap64_in (by omega) (by omega)
 have e2 : wrap64 (x : Int) = (x : Int) := wrap64_in (by omega) (by omega)
 rw [e1, e2]
 have e3 : wrap64 (10 * a + (x : Int)) = 10 * a + (x : Int) := wrap64_in (by omega) (by omega)
 rw [e3]
 exact wrap64_in (by omega) (by omega)
theorem ev_digits (n : Nat) (hn : n ≤ 999999) : Ev (fun k => thwartref12_digits.f k (n : Int)) (B (six n)) := by
 have step : ∀ (d i : Nat), i + d = 6 → Ev (fun k => thwartref12_digits.l0 k ((n / 10 ^ i : Nat) : Int) (B (digs i (n % 10 ^ i))) (i : Int)) (B (six n)) := by
  intro d
  induction d with
  | zero =>
   intro i hi
   obtain rfl : i = 6 := by omega
   refine Ev.step (f := fun _ => some (B (digs 6 (n % 10 ^ 6)))) (fun k => ?_) ?_
   ·rw [thwartref12_digits.l0, if_neg (by decide)]
   ·rw [Nat.mod_eq_of_lt (by omega)]
    exact ev_some fun _ => rfl
  | succ d ih =>
   intro i hi
   have ih' := ih (i + 1) (by omega)
   have hp := pow_pos10 i
   have hle : n / 10 ^ i ≤ n := Nat.div_le_self _ _
   have hdd : n / 10 ^ i / 10 = n / 10 ^ (i + 1) := by rw [Nat.pow_succ, Nat.div_div_eq_div_mul]
   have hst := digs_step i n
   have hl := digs_length i (n % 10 ^ i)
   generalize digs i (n % 10 ^ i) = ds at hst hl ⊢
   rw [← hst, ← hdd] at ih'
   generalize n / 10 ^ i = q at hle hdd ih' ⊢
   have c1 : (i : Int) < 6 := by omega
   have c2 : (B [UInt8.ofNat (48 + q % 10)]).size + (B ds).size ≤ 9223372036854775807 := by rw [B_size, B_size, List.length_singleton, hl]; omega
   obtain ⟨hw, hw2⟩ := dig_wrap q (Nat.le_trans hle hn)
   have hi1 : wrap64 ((i : Int) + 1) = ((i + 1 : Nat) : Int) := by rw [wrap64_in (by omega) (by omega)]; omega
   refine Ev.step (f := fun k => thwartref12_digits.l0 k ((q / 10 : Nat) : Int) (B (UInt8.ofNat (48 + q % 10) :: ds)) ((i + 1 : Nat) : Int)) (fun k => ?_) ih'
   rw [thwartref12_digits.l0, if_pos c1]
   simp only [Option.bind_some]
   rw [hw, hw2, hi1, strOfNums_one, if_pos c2, B_app]
   rfl
 have h0 := step 6 0 (by omega)
 unfold thwartref12_digits.f
 have e0 : n / 10 ^ 0 = n := by simp
 rw [e0] at h0
 exact h0
theorem ev_rName (n : Int) (hn : -9223372036854775808 ≤ n ∧ n ≤ 9223372036854775807) : Ev (fun k => thwartref12_Name.f k n) (nameB 109 n 1) := by
 unfold thwartref12_Name.f nameB nameL
 by_cases h1 : n < 1
 ·rw [if_pos (Or.inl h1)]
  exact ev_if_pos h1 (ev_some fun _ => rfl)
 refine ev_if_neg h1 ?_
 by_cases h2 : n > 999999
 ·rw [if_pos (Or.inr h2)]
  exact ev_if_pos h2 (ev_some fun _ => rfl)
 refine ev_if_neg h2 ?_
 rw [if_neg (by omega)]
 obtain ⟨m, rfl⟩ : ∃ m : Nat, n = (m : Int) := ⟨n.toNat, by omega⟩
 refine Ev.bind (ev_digits m (by omega)) ?_
 refine ev_if_pos (by rw [B_size, six_length]; decide) (ev_some fun _ => ?_)
 rw [show (⟨#[109]⟩ : ByteArray) = B [109] from rfl, B_app]
 rfl
theorem ev_rObject (n : Int) (hn : -9223372036854775808 ≤ n ∧ n ≤ 9223372036854775807) : Ev (fun k => thwartref12_Object.f k n) (nameB 111 n 0) := by
 unfold thwartref12_Object.f nameB nameL
 by_cases h1 : n < 0
 ·rw [if_pos (Or.inl h1)]
  exact ev_if_pos h1 (ev_some fun _ => rfl)
 refine ev_if_neg h1 ?_
 by_cases h2 : n > 999999
 ·rw [if_pos (Or.inr h2)]
  exact ev_if_pos h2 (ev_some fun _ => rfl)
 refine ev_if_neg h2 ?_
 rw [if_neg (by omega)]
 obtain ⟨m, rfl⟩ : ∃ m : Nat, n = (m : Int) := ⟨n.toNat, by omega⟩
 refine Ev.bind (ev_digits m (by omega)) ?_
 refine ev_if_pos (by rw [B_size, six_length]; decide) (ev_some fun _ => ?_)
 rw [show (⟨#[111]⟩ : ByteArray) = B [111] from rfl, B_app]
 rfl
theorem ev_rOf (n : Int) (b : ByteArray) (hb : b.size ≤ 4611686018427387904) : Ev (fun k => thwartref12_Of.f k n b) (n, (b.size : Int), ((sumS2 (L b) : Nat) : Int)) := by
 unfold thwartref12_Of.f
 exact Ev.bind (ev_rSum2 b hb) (ev_some fun _ => rfl)
/-- The number that six bytes spell, digits or not. -/
def foldV (l : Bs) (a : Int) : Int := l.foldl (fun a b => 10 * a + (b.toNat : Int) - 48) a
theorem foldV_digs : ∀ (k n : Nat) (a : Int), n < 10 ^ k → foldV (digs k n) a = a * ((10 ^ k : Nat) : Int) + (n : Int)
 | 0, n, a, h => by
  have : n = 0 := by simpa using h
  subst this
  simp [foldV, digs]
 | k + 1, n, a, h => by
  have hq : n / 10 ^ k < 10 := by
   rw [Nat.pow_succ] at h
   exact Nat.div_lt_of_lt_mul h
  have hd := digit_nat hq
  have h2 := foldV_digs k (n % 10 ^ k) (10 * a + ((48 + n / 10 ^ k : Nat) : Int) - 48) (Nat.mod_lt _ (pow_pos10 k))
  have h3 := Nat.div_add_mod n (10 ^ k)
  unfold foldV at h2 ⊢
  rw [digs, List.foldl_cons, hd, h2]
  rw [Nat.pow_succ]
  generalize n % 10 ^ k = r at *
  generalize n / 10 ^ k = q at *
  generalize 10 ^ k = t at *
  have h3' : (n : Int) = (t : Int) * (q : Int) + (r : Int) := by
   have := congrArg (fun x : Nat => (x : Int)) h3
   simp only [Int.natCast_add, Int.natCast_mul] at this
   omega
  rw [h3']
  have e1 : ((48 + q : Nat) : Int) = 48 + (q : Int) := by omega
  have e2 : ((t * 10 : Nat) : Int) = (t : Int) * 10 := by omega
  rw [e1, e2]
  have e3 : (10 * a + (48 + (q : Int)) - 48) * (t : Int) = a * ((t : Int) * 10) + (t : Int) * (q : Int) := by
   have : 10 * a + (48 + (q : Int)) - 48 = 10 * a + q := by omega
   rw [this, Int.add_mul, Int.mul_comm 10 a, Int.mul_assoc, Int.mul_comm 10 (t : Int), Int.mul_comm (q : Int)]
  rw [e3, Int.add_assoc]
theorem foldV_bound : ∀ (l : Bs) (a B : Int), -B ≤ a → a ≤ B → 300 ≤ B → -(B * ((20 ^ l.length : Nat) : Int)) ≤ foldV l a ∧ foldV l a ≤ B * ((20 ^ l.length : Nat) : Int)
 | [], a, B, h1, h2, h3 => by
  simp [foldV]
  omega
 | x :: l, a, B, h1, h2, h3 => by
  have hx := x.toNat_lt
  have h := foldV_bound l (10 * a + (x.toNat : Int) - 48) (20 * B) (by omega) (by omega) (by omega)
  have e : (20 * B) * ((20 ^ l.length : Nat) : Int) = B * ((20 ^ (x :: l).length : Nat) : Int) := by
   rw [List.length_cons, Nat.pow_succ, Int.natCast_mul, Int.mul_comm 20 B, Int.mul_assoc]
   congr 1
   rw [Int.mul_comm]
   rfl
  rw [e] at h
  exact h
theorem foldV_snoc (l : Bs) (x : UInt8) (a : Int) : foldV (l ++ [x]) a = 10 * foldV l a + (x.toNat : Int) - 48 := by
 unfold foldV
 rw [List.foldl_append]
 rfl
theorem ev_rVersion (s : ByteArray) (hs : s.size ≤ 1000) : ∃ r, verO s r ∧ Ev (fun k => thwartref12_Version.f k s) r := by
 obtain ⟨l, hl⟩ : ∃ l, ((L s).drop 1).take 6 = l := ⟨_, rfl⟩
 have hll : l.length ≤ 6 := by rw [← hl, List.length_take]; omega
 have hln : l.length = min 6 (s.size - 1) := by rw [← hl, List.length_take, List.length_drop, L_length]
 have hls : ∀ i : Nat, i < l.length → ((i + 1 : Nat) : Int) < (s.size : Int) := fun i h => by omega
 have hl7 : ∀ i : Nat, i < l.length → ((i + 1 : Nat) : Int) < 7 := fun i h => by omega
 have hend : ¬ ((l.length + 1 : Nat) : Int) < (s.size : Int) ∨ ¬ ((l.length + 1 : Nat) : Int) < 7 := by omega
 have hnext : ∀ i : Nat, i < l.length → wrap64 (((i + 1 : Nat) : Int) + 1) = ((i + 1 + 1 : Nat) : Int) := fun i h => by rw [wrap64_in (by omega) (by omega)]; omega
 have hb : ∀ i, i ≤ 6 → -(300 * 64000000) ≤ foldV (l.take i) 0 ∧ foldV (l.take i) 0 ≤ 300 * 64000000 := by
  intro i hi
  have h := foldV_bound (l.take i) 0 300 (by omega) (by omega) (by omega)
  have h2 : (20 : Nat) ^ (l.take i).length ≤ 20 ^ 6 := Nat.pow_le_pow_right (by decide) (by rw [List.length_take]; omega)
  have h3 : (20 : Nat) ^ 6 = 64000000 := by decide
  rw [h3] at h2
  generalize 20 ^ (l.take i).length = z at h h2
  omega
 have hV := hb l.length hll
 rw [List.take_length] at hV
 obtain ⟨V, hVe⟩ : ∃ V, foldV l 0 = V := ⟨_, rfl⟩
 rw [hVe] at hV
 obtain ⟨r, hr, hev⟩ : ∃ r, verO s r ∧ Ev (fun k => if s.toList = ([] : List UInt8) then (some ((0 : Int), false)) else ((thwartref12_Name.f k V).bind fun t => (if t.toList = s.toList then (some (V, true)) else (some (0, false))))) r := by
  have hname := ev_rName V ⟨by omega, by omega⟩
  by_cases he : s.toList = []
  ·refine ⟨(0, false), Or.inr ⟨fun n hn => ?_, rfl⟩, ev_if_pos he (ev_some fun _ => rfl)⟩
   rw [Lib.toList_data] at he
   have := hn.2.2
   unfold L at this
   rw [he] at this
   cases this
  ·by_cases hq : (nameB 109 V 1).toList = s.toList
   ·have hs2 : nameL 109 V 1 = L s := by
     rw [Lib.toList_data, Lib.toList_data] at hq
     unfold nameB at hq
     have h9 : L (B (nameL 109 V 1)) = L s := hq
     rwa [L_B] at h9
    obtain ⟨h1, h2⟩ := name_isV (by intro h0; apply he; rw [Lib.toList_data]; exact h0) hs2
    refine ⟨(V, true), Or.inl ⟨V.toNat, h1, by rw [Int.toNat_of_nonneg h2]⟩, ev_if_neg he (Ev.bind hname (ev_if_pos hq (ev_some fun _ => rfl)))⟩
   ·refine ⟨(0, false), Or.inr ⟨fun n hn => hq ?_, rfl⟩, ev_if_neg he (Ev.bind hname (ev_if_neg hq (ev_some fun _ => rfl)))⟩
    have hl2 : l = six n := by
     rw [← hl, hn.2.2]
     simp [List.take_of_length_le (Nat.le_of_eq (six_length n))]
    have hVn : V = (n : Int) := by
     rw [← hVe, hl2]
     have := foldV_digs 6 n 0 (by have := hn.2.1; omega)
     unfold six
     rw [this]
     simp
    have h5 := isV_name hn
    rw [hVn, Lib.toList_data, Lib.toList_data]
    unfold nameB
    rw [h5]
    have h6 : L (B (L s)) = L s := L_B _
    exact h6
 refine ⟨r, hr, ?_⟩
 have step : ∀ (d i : Nat), i + d = l.length → Ev (fun k => thwartref12_Version.l0 k s (foldV (l.take i) 0) ((i + 1 : Nat) : Int)) r := by
  intro d
  induction d with
  | zero =>
   intro i hi
   obtain rfl : i = l.length := by omega
   rw [List.take_length, hVe]
   refine Ev.step (f := fun k => if s.toList = ([] : List UInt8) then (some ((0 : Int), false)) else ((thwartref12_Name.f k V).bind fun t => (if t.toList = s.toList then (some (V, true)) else (some (0, false))))) (fun k => ?_) hev
   rw [thwartref12_Version.l0]
   by_cases h1 : ((l.length + 1 : Nat) : Int) < (s.size : Int)
   ·rw [if_pos h1, if_neg (hend.resolve_left (fun h => h h1))]
   ·rw [if_neg h1]
  | succ d ih =>
   intro i hi
   have hlt : i < l.length := by omega
   have ih' := ih (i + 1) (by omega)
   rw [List.take_succ_eq_append_getElem hlt, foldV_snoc] at ih'
   have hbt : bt s ((i + 1 : Nat) : Int) = (l[i].toNat : Int) := by
    have hlt2 : i + 1 < (L s).length := by rw [L_length]; omega
    rw [bt_L s (i + 1) hlt2]
    have : l[i] = (L s)[i + 1] := by
     simp only [← hl, List.getElem_take, List.getElem_drop]
     congr 1
     omega
    rw [this]
   have hx := (l[i]).toNat_lt
   have hb1 := hb i (by omega)
   generalize foldV (l.take i) 0 = acc at ih' hb1 ⊢
   generalize (l[i]).toNat = x at hx hbt ih'
   have hi1 := hnext i hlt
   have c1 := hls i hlt
   have c2 := hl7 i hlt
   have c3 : (0 : Int) ≤ ((i + 1 : Nat) : Int) := Int.natCast_nonneg _
   have hw : wrap64 ((wrap64 ((wrap64 (10 * acc)) + (wrap64 (bt s ((i + 1 : Nat) : Int))))) - 48) = 10 * acc + (x : Int) - 48 := by
    rw [hbt]
    exact ver_wrap acc x (by have := hb1.1; omega) (by have := hb1.2; omega) hx
   refine Ev.step (f := fun k => thwartref12_Version.l0 k s (10 * acc + (x : Int) - 48) ((i + 1 + 1 : Nat) : Int)) (fun k => ?_) ih'
   rw [thwartref12_Version.l0, if_pos c1, if_pos c2, if_pos c3, hw, hi1]
 have h0 := step l.length 0 (by omega)
 unfold thwartref12_Version.f
 exact h0
end Go.Proofs.YtlnbekaldemebaaGreatDoor.Thw
/-! ## Layer 12: a manifest for the document; are two the same. -/
namespace Go.Proofs.YtlnbekaldemebaaGreatDoor.Thw
open Go Go.RowKit Go.Proofs.YtlnbekaldemebaaGreatDoor.Print Go.Proofs.YtlnbekaldemebaaGreatDoorW.PrintWords Go.Proofs.YtlnbekaldemebaaGreatDoorW.PrintLast Go.Proofs.YtlnbekaldemebaaGreatDoorW.PrintMore
set_option linter.unusedVariables false
set_option linter.unusedSimpArgs false
abbrev SgR := S65
instance : DecidableEq SgR := fun x y =>
 if h : x.f0 = y.f0 ∧ x.f1 = y.f1 ∧ x.f2 = y.f2 then isTrue (by obtain ⟨a, b, c⟩ := x; obtain ⟨d, e, f⟩ := y; obtain ⟨h1, h2, h3⟩ := h; simp only at h1 h2 h3; rw [h1, h2, h3]) else isFalse (fun e => h (by rw [e]; exact ⟨rfl, rfl, rfl⟩))
def cR (x : SgI) : SgR := ⟨x.f0, x.f1, x.f2⟩
theorem ev_Same (v v' : Int) (l l' : List SgR) (hl : l.length ≤ 1000000) (hl' : l'.length ≤ 1000000) : Ev (fun k => thwartref12_Same.f k v l v' l') (decide (v = v' ∧ l = l')) := by
 unfold thwartref12_Same.f
 by_cases hv : v = v'
 ·refine ev_if_pos hv ?_
  subst hv
  by_cases hn : l.length = l'.length
  ·have e0 : ((l.length : Int) != (l'.length : Int)) = false := by rw [hn]; simp
   rw [e0]
   have step : ∀ (d i : Nat), i + d = l.length → l.take i = l'.take i → Ev (fun k => thwartref12_Same.l0 k (i : Int) v l v l') (decide (v = v ∧ l = l')) := by
    intro d
    induction d with
    | zero =>
     intro i hi ht
     rw [List.take_of_length_le (by omega), List.take_of_length_le (by omega)] at ht
     refine Ev.step (f := fun _ => some true) (fun k => ?_) (ev_some fun _ => ?_)
     ·rw [thwartref12_Same.l0, if_neg (by omega)]
     ·rw [decide_eq_true ⟨rfl, ht⟩]
    | succ d ih =>
     intro i hi ht
     have hlt : i < l.length := by omega
     have hlt' : i < l'.length := by omega
     have hx : rd_T65 l (i : Int) = l[i] := by
      unfold rd_T65
      rw [Int.toNat_natCast, List.getD_eq_getElem?_getD, List.getElem?_eq_getElem hlt]
      rfl
     have hx' : rd_T65 l' (i : Int) = l'[i] := by
      unfold rd_T65
      rw [Int.toNat_natCast, List.getD_eq_getElem?_getD, List.getElem?_eq_getElem hlt']
      rfl
     have hi1 : wrap64 ((i : Int) + 1) = ((i + 1 : Nat) : Int) := by rw [wrap64_in (by omega) (by omega)]; omega
     have hc1 : (i : Int) < (l.length : Int) := by omega
     have hc2 : (0 : Int) ≤ (i : Int) := by omega
     have hc3 : (i : Int) < (l'.length : Int) := by omega
     by_cases he : l[i] = l'[i]
     ·have ih' := ih (i + 1) (by omega) (by rw [List.take_succ_eq_append_getElem hlt, List.take_succ_eq_append_getElem hlt', ht, he])
      refine Ev.step (f := fun k => thwartref12_Same.l0 k ((i + 1 : Nat) : Int) v l v l') (fun k => ?_) ih'
      rw [thwartref12_Same.l0, if_pos hc1, if_pos hc2, if_pos hc3, hx, hx', he, hi1]
      rw [if_neg (by simp)]
     ·refine Ev.step (f := fun _ => some false) (fun k => ?_) (ev_some fun _ => ?_)
      ·rw [thwartref12_Same.l0, if_pos hc1, if_pos hc2, if_pos hc3, hx, hx']
       rw [if_pos ?_]
       apply Classical.byContradiction
       intro hne
       apply he
       generalize l[i] = x at hne ⊢
       generalize l'[i] = y at hne ⊢
       obtain ⟨a, b, c⟩ := x
       obtain ⟨d', e, f⟩ := y
       simp at hne
       obtain ⟨h1, h2, h3⟩ := hne
       rw [h1, h2, h3]
      ·rw [decide_eq_false]
       rintro ⟨_, h⟩
       apply he
       simp only [h]
   refine Ev.step (f := fun k => thwartref12_Same.l0 k 0 v l v l') (fun k => ?_) (step l.length 0 (by omega) rfl)
   rw [thwartref12_Same.j0, if_neg (by simp)]
  ·have e0 : ((l.length : Int) != (l'.length : Int)) = true := by
    rw [bne_iff_ne]
    omega
   rw [e0]
   refine Ev.step (f := fun _ => some false) (fun k => ?_) (ev_some fun _ => ?_)
   ·rw [thwartref12_Same.j0, if_pos rfl]
   ·rw [decide_eq_false]
    rintro ⟨_, h⟩
    exact hn (by rw [h])
 ·refine ev_if_neg hv ?_
  refine Ev.step (f := fun _ => some false) (fun k => ?_) (ev_some fun _ => ?_)
  ·rw [thwartref12_Same.j0, if_pos rfl]
  ·rw [decide_eq_false]
   rintro ⟨h, _⟩
   exact hv h
theorem same_calls (v v' : Int) (l l' : List SgR) (hl : l.length ≤ 1000000) (hl' : l'.length ≤ 1000000) (A A' : Option Addr) (n n' c c' : Nat) (W : World) (b b' : Nat) (ok ok' : Nat → Prop) (hR : Kd.R k65 65 W b ok (.slice A n c) l) (hR' : Kd.R k65 65 W b' ok' (.slice A' n' c') l') :
  Calls Tryz.prog 19 #[.agg #[.int .i64 v, .slice A n c], .agg #[.int .i64 v', .slice A' n' c']] W fun e w' => e = .returned (.bool (decide (v = v' ∧ l = l'))) ∧ Below W.heap.size W w' := by
 obtain ⟨q, hq⟩ := Ev.rounds (ev_Same v v' l l' hl hl')
 obtain ⟨rfl, hc, hC⟩ := Kd.R_reads' hR
 obtain ⟨rfl, hc', hC'⟩ := Kd.R_reads' hR'
 exact thwartref12_Same.calls q v A c l v' A' c' l' _ W hC hc hC' hc' hq
end Go.Proofs.YtlnbekaldemebaaGreatDoor.Thw
