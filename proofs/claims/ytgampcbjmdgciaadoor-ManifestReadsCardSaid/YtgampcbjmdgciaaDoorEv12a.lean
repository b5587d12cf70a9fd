/- Layer 12: what start-up code has laid; the names. -/
import Derived.Test.YtgampcbjmdgciaaDoorHead
import Derived.Test.YtgampcbjmdgciaaDoorShelf
import Derived.Shelf.Strconv.Itoa3
import Derived.Shelf.Strconv.AtoiAll
import Derived.Shelf.Strconv.ErrVarAll
import Derived.Shelf.Strings.Repeat
import Derived.Lib.AppendIntMem
import Derived.Test.YtgampcbjmdgciaaDoorPlain12
import Derived.Test.YtgampcbjmdgciaaDoorEvA
import Derived.Test.YtgampcbjmdgciaaDoorRows
import Derived.Test.YtgampcbjmdgciaaDoorPrint4
namespace Go.Proofs.YtgampcbjmdgciaaDoor.Thw
open Go Go.RowKit Go.Proofs.YtgampcbjmdgciaaDoor.Print Go.Proofs.YtgampcbjmdgciaaDoorW.PrintWords Go.Proofs.YtgampcbjmdgciaaDoorW.PrintLast Go.Proofs.YtgampcbjmdgciaaDoorW.PrintMore
set_option linter.unusedVariables false
set_option linter.unusedSimpArgs false
/-- The names of the laid variables, as the row lists them. -/
def laidN (k : Nat) : String := ((Rows.manifestOrderRow.laid[k]?).map (·.1)).getD default
/-- What start-up code has laid and the walks read: the powers of ten, two errors. -/
structure LaidW (w : World) : Prop where
  tab : Go.Lib.TabIs Tryd.prog w (laidN 2) .u64 Go.Lib.pow10Tab
  rng : ∃ tp p, w.var? Tryd.prog (laidN 3) = some #[.iface tp p]
  syn : ∃ tp p, w.var? Tryd.prog (laidN 4) = some #[.iface tp p]
theorem var_below {P : Program} {w w' : World} {n : String} {cs : Array Value} (h : w.var? P n = some cs) (hb : Below w.heap.size w w') : w'.var? P n = some cs := by
  unfold World.var? at h ⊢
  cases hg : P.globalNamed n with
  | none => rw [hg] at h; cases h
  | some g =>
    rw [hg] at h
    simp only [Option.bind_some] at h ⊢
    have hlt : g < w.heap.size := by
      apply Classical.byContradiction
      intro hn
      rw [Array.getElem?_eq_none (by omega)] at h
      cases h
    rw [hb.block g hlt]
    exact h
theorem LaidW.below {w w' : World} (h : LaidW w) (hb : Below w.heap.size w w') : LaidW w' := by
  obtain ⟨h1, ⟨t2, p2, h2⟩, ⟨t3, p3, h3⟩⟩ := h
  exact ⟨var_below h1 hb, ⟨t2, p2, var_below h2 hb⟩, ⟨t3, p3, var_below h3 hb⟩⟩
theorem itoa_calls (n : Int) (h0 : -9223372036854775808 ≤ n) (h1 : n ≤ 9223372036854775807) (w : World) (hL : LaidW w) :
    Calls Tryd.prog 46 #[.int .i64 n] w fun e w' => e = .returned (.string ⟨(Go.Lib.itoa n).toArray⟩) ∧ Below w.heap.size w w' := by
  refine (show Calls Tryd.prog 46 _ _ _ from Any.strconv_Itoa Tryd.itoa n h0 h1 w hL.tab).mono ?_
  rintro e w' ⟨rfl, k, os, rfl⟩
  exact ⟨rfl, Go.Lib.below_grow _ w (Nat.le_refl _) k os⟩
theorem rptExtra : Builder.Extra Tryd.prog Tryd.rpt_ren where
  sizeBuilder := by kernel_rfl
  liesBuilder := by kernel_rfl
  t5 := Tryd.rpt.t5
  a5 := Tryd.rpt.a5
  z5 := Tryd.rpt.z5
  v5 := Tryd.rpt.v5
  infoByte := by kernel_rfl
  cellsByte := by kernel_rfl
  sizeByte := by kernel_rfl
  neB5 := by decide
theorem repeat_calls (s : ByteArray) (c : Nat) (w : World) (hc : c ≤ 9223372036854775807) (hlen : s.size * c ≤ 140737488355328) :
    Calls Tryd.prog 47 #[.string s, .int .i64 c] w fun e w' => e = .returned (.string ⟨(Go.Lib.repeatL s.data.toList c).toArray⟩) ∧ Below w.heap.size w w' :=
  show Calls Tryd.prog 47 _ _ _ from Any.strings_Repeat Tryd.rpt rptExtra s c w hc hlen
/-- The name of a number behind a letter. -/
def nameB (c : UInt8) (n from_ : Int) : ByteArray := B (nameL c n from_)
theorem itoa_nat (n : Int) (h0 : 0 ≤ n) : Go.Lib.itoa n = Go.Lib.decDigits n.toNat := by unfold Go.Lib.itoa; rw [if_neg (by omega)]
theorem name_join (c : UInt8) (n : Int) (h0 : 0 ≤ n) (h1 : n ≤ 999999) : Go.Lib.nDigits n.toNat ≤ 6 ∧ (⟨#[c]⟩ : ByteArray) ++ ⟨(Go.Lib.repeatL [48] (6 - Go.Lib.nDigits n.toNat)).toArray⟩ ++ ⟨(Go.Lib.itoa n).toArray⟩ = B (c :: six n.toNat) := by
  obtain ⟨h2, h3⟩ := digs_pad 5 n.toNat (by omega)
  refine ⟨h2, ?_⟩
  rw [itoa_nat n h0]
  apply ByteArray.ext
  apply Array.ext'
  have e : six n.toNat = digs (5 + 1) n.toNat := rfl
  rw [e, ← h3]
  simp [B]
set_option maxHeartbeats 1600000 in
theorem man_name.calls (c : UInt8) (n from_ : Int) (h0 : 0 ≤ from_) (hn : -9223372036854775808 ≤ n ∧ n ≤ 9223372036854775807) (w : World) (hL : LaidW w) :
    Calls Tryd.prog 38 #[.string ⟨#[c]⟩, .int .i64 n, .int .i64 from_] w fun e w' => e = .returned (.string (nameB c n from_)) ∧ Below w.heap.size w w' := by
  have HL := Aside0.mk hL
  clear hL
  go_enter Tryd.func38, Tryd.ntmps38
  by_cases h1 : n < from_
  · have d1 : decide (n < from_) = true := decide_eq_true h1
    have HR := Aside0.mk (show nameB c n from_ = ⟨#[]⟩ by unfold nameB nameL; rw [if_pos (Or.inl h1)]; rfl)
    rw [HR.out]
    go_wp2_with fail
    go_ret
    exact ⟨rfl, Below.refl _ _⟩
  have d1 : decide (n < from_) = false := decide_eq_false h1
  by_cases h2 : 999999 < n
  · have d2 : decide (999999 < n) = true := decide_eq_true h2
    have HR := Aside0.mk (show nameB c n from_ = ⟨#[]⟩ by unfold nameB nameL; rw [if_pos (Or.inr h2)]; rfl)
    rw [HR.out]
    go_wp2_with fail
    go_ret
    exact ⟨rfl, Below.refl _ _⟩
  have d2 : decide (999999 < n) = false := decide_eq_false h2
  have HR := Aside0.mk (show nameB c n from_ = B (c :: six n.toNat) by unfold nameB nameL; rw [if_neg (by omega)])
  rw [HR.out]
  go_wp2_with fail
  refine (itoa_calls n hn.1 hn.2 _ HL.out).mono ?_
  rintro e w1 ⟨rfl, b1⟩
  have B1 := Aside0.mk b1
  clear b1
  have hn0 : 0 ≤ n := by omega
  obtain ⟨hd6, hj⟩ := name_join c n hn0 h2
  have HJ := Aside0.mk hj
  clear hj
  obtain ⟨s1, hs1⟩ : ∃ s : ByteArray, (⟨(Go.Lib.itoa n).toArray⟩ : ByteArray) = s := ⟨_, rfl⟩
  have hz : s1.size = Go.Lib.nDigits n.toNat := by
    rw [← hs1, itoa_nat n hn0]
    show (Go.Lib.decDigits n.toNat).toArray.size = _
    rw [List.size_toArray, Go.Lib.decDigits_length]
  rw [hs1] at HJ ⊢
  obtain ⟨d, hd⟩ : ∃ d, Go.Lib.nDigits n.toNat = d := ⟨_, rfl⟩
  rw [hd] at HJ hz hd6
  have hzi : (s1.size : Int) = (d : Int) := by omega
  have HZ := Aside0.mk hz
  clear hz hs1 hd hn0
  go_wp2_with fail
  have e6 : (6 : Int) - (d : Int) = ((6 - d : Nat) : Int) := by omega
  rw [e6]
  refine (repeat_calls ⟨#[48]⟩ (6 - d) _ (by omega) (by show 1 * (6 - d) ≤ 140737488355328; omega)).mono ?_
  rintro e w2 ⟨rfl, b2⟩
  have B2 := Aside0.mk (B1.out.trans (b2.mono B1.out.size))
  clear b2
  have e48 : (⟨#[48]⟩ : ByteArray).data.toList = [48] := rfl
  rw [e48]
  obtain ⟨r1, hr1⟩ : ∃ r : ByteArray, (⟨(Go.Lib.repeatL [48] (6 - d)).toArray⟩ : ByteArray) = r := ⟨_, rfl⟩
  have hz2 : r1.size ≤ 6 := by
    rw [← hr1]
    show (Go.Lib.repeatL [48] (6 - d)).toArray.size ≤ 6
    rw [List.size_toArray, Go.Lib.repeatL_length]
    simp
  rw [hr1] at HJ ⊢
  have hz := HZ.out
  clear hr1 e48
  go_wp2_with fail
  go_ret
  exact ⟨congrArg _ (congrArg _ HJ.out), B2.out⟩
theorem man_Name.calls (n : Int) (hn : -9223372036854775808 ≤ n ∧ n ≤ 9223372036854775807) (w : World) (hL : LaidW w) :
    Calls Tryd.prog 20 #[.int .i64 n] w fun e w' => e = .returned (.string (nameB 109 n 1)) ∧ Below w.heap.size w w' := by
  go_enter Tryd.func20, Tryd.ntmps20
  go_wp2_with fail
  refine (man_name.calls 109 n 1 (by omega) hn _ hL).mono ?_
  rintro e w1 ⟨rfl, b1⟩
  go_wp2_with fail
  go_ret
  exact ⟨rfl, b1⟩
theorem man_Object.calls (n : Int) (hn : -9223372036854775808 ≤ n ∧ n ≤ 9223372036854775807) (w : World) (hL : LaidW w) :
    Calls Tryd.prog 22 #[.int .i64 n] w fun e w' => e = .returned (.string (nameB 111 n 0)) ∧ Below w.heap.size w w' := by
  go_enter Tryd.func22, Tryd.ntmps22
  go_wp2_with fail
  refine (man_name.calls 111 n 0 (by omega) hn _ hL).mono ?_
  rintro e w1 ⟨rfl, b1⟩
  go_wp2_with fail
  go_ret
  exact ⟨rfl, b1⟩
/-- What a prefix cut comes to. -/
theorem cut_m (s : ByteArray) (hs : s.size ≤ 4611686018427387904) : (∃ x : ByteArray, L s = 109 :: L x ∧ x.size + 1 = s.size ∧ strings_CutPrefix.f s ⟨#[109]⟩ = some (x, true)) ∨ ((∀ l, L s ≠ 109 :: l) ∧ ∃ x, x.size ≤ s.size ∧ strings_CutPrefix.f s ⟨#[109]⟩ = some (x, false)) := by
  have h1 : (⟨#[109]⟩ : ByteArray).size = 1 := rfl
  unfold strings_CutPrefix.f stringslite_CutPrefix.f stringslite_HasPrefix.f
  rw [h1]
  by_cases h2 : 1 ≤ s.size
  · have e0 : ((1 : Nat) : Int).toNat = 1 := rfl
    rw [if_pos (show (s.size : Int) ≥ ((1 : Nat) : Int) by omega), if_pos (show (0 : Int) ≤ ((1 : Nat) : Int) by omega), if_pos (show ((1 : Nat) : Int) ≤ (s.size : Int) by omega), e0]
    try simp only [Option.bind_some]
    have hL1 : L (s.extract 0 1) = (L s).take 1 := L_extract_front s 1
    have hL2 : L (s.extract 1 s.size) = (L s).drop 1 := L_extract_end s 1
    have hb : ((s.extract 0 1).toList == (⟨#[109]⟩ : ByteArray).toList) = decide ((L s).take 1 = [109]) := by
      rw [Bool.eq_iff_iff, beq_iff_eq, decide_eq_true_eq, Lib.toList_data, Lib.toList_data]
      show L (s.extract 0 1) = [109] ↔ _
      rw [hL1]
    rw [hb]
    by_cases h3 : (L s).take 1 = [109]
    · rw [decide_eq_true h3, if_pos rfl]
      try simp only [Option.bind_some]
      refine Or.inl ⟨s.extract 1 s.size, ?_, ?_, by rw [if_pos (show (0 : Int) ≤ ((1 : Nat) : Int) by omega), if_pos (show ((1 : Nat) : Int) ≤ (s.size : Int) by omega)]; rfl⟩
      · rw [hL2, ← List.take_append_drop 1 (L s), h3]
        simp
      · have := congrArg List.length hL2
        rw [L_length, List.length_drop, L_length] at this
        omega
    · rw [decide_eq_false h3, if_neg (by simp)]
      try simp only [Option.bind_some]
      refine Or.inr ⟨fun l e => h3 (by rw [e]; rfl), s, Nat.le_refl _, rfl⟩
  · rw [if_neg (show ¬ (s.size : Int) ≥ ((1 : Nat) : Int) by omega)]
    try simp only [Option.bind_some]
    rw [if_neg (by simp)]
    refine Or.inr ⟨fun l e => ?_, s, Nat.le_refl _, rfl⟩
    have := congrArg List.length e
    rw [L_length] at this
    simp at this
    omega
/-- The version that a name tells, if any. -/
def verO (s : ByteArray) (r : Int × Bool) : Prop := (∃ n, IsV (L s) n ∧ r = ((n : Int), true)) ∨ ((∀ n, ¬ IsV (L s) n) ∧ r = (0, false))
def AtoiPost (s : ByteArray) (w : World) (e : Ending) (w' : World) : Prop :=
  Below w.heap.size w w' ∧ ((∃ v, Go.Lib.atoiAll (L s) = .ok v ∧ -9223372036854775808 ≤ v ∧ v ≤ 9223372036854775807 ∧ e = .returned (.tuple #[.int .i64 v, .nilIface])) ∨
    ((∀ v, Go.Lib.atoiAll (L s) ≠ .ok v) ∧ ∃ v tp p, e = .returned (.tuple #[.int .i64 v, .iface tp p])))
theorem atoi_calls (s : ByteArray) (hs : s.size ≤ 1000000) (w : World) (hL : LaidW w) : Calls Tryd.prog 35 #[.string s] w (AtoiPost s w) := by
  obtain ⟨_, ⟨t2, p2, h2⟩, ⟨t3, p3, h3⟩⟩ := hL
  rcases h : Go.Lib.atoiAll s.data.toList with v | _ | _
  · refine (show Calls Tryd.prog 35 _ _ _ from Any.strconv_Atoi_ok Tryd.atoi s (by omega) v h w).mono ?_
    rintro e w' ⟨rfl, hw⟩
    have hb := Go.Lib.atoiAll_bounds h
    refine ⟨?_, Or.inl ⟨v, h, by omega, by omega, rfl⟩⟩
    rcases hw with rfl | ⟨t, rfl⟩
    · exact Below.refl _ _
    · exact Go.Lib.bytesWorld_below _ _ _
  · refine (show Calls Tryd.prog 35 _ _ _ from Any.strconv_Atoi_syntax_var Tryd.atoi s (by omega) h t3 p3 w h3).mono ?_
    rintro e w' ⟨N, rfl, _, _, hb⟩
    exact ⟨hb, Or.inr ⟨(fun v e => by rw [show Go.Lib.atoiAll (L s) = _ from h] at e; cases e), _, _, _, rfl⟩⟩
  · refine (show Calls Tryd.prog 35 _ _ _ from Any.strconv_Atoi_range_var Tryd.atoi s (by omega) h t2 p2 w h2).mono ?_
    rintro e w' ⟨N, rfl, _, _, hb⟩
    exact ⟨hb, Or.inr ⟨(fun v e => by rw [show Go.Lib.atoiAll (L s) = _ from h] at e; cases e), _, _, _, rfl⟩⟩
set_option maxHeartbeats 1600000 in
theorem man_Version.calls (s : ByteArray) (hs : s.size ≤ 1000000) (w : World) (hL : LaidW w) :
    Calls Tryd.prog 16 #[.string s] w fun e w' => (∃ r, verO s r ∧ e = .returned (.tuple #[.int .i64 r.1, .bool r.2])) ∧ Below w.heap.size w w' := by
  have HL := Aside0.mk hL
  clear hL
  go_enter Tryd.func16, Tryd.ntmps16
  rcases cut_m s (by omega) with ⟨x, hx1, hx2, hx3⟩ | ⟨hx1, x, hx2, hx3⟩
  · have HX := Aside0.mk hx1
    have HX3 := Aside0.mk hx3
    clear hx1 hx3
    go_wp2_with fail
    refine (strings_CutPrefix.calls s ⟨#[109]⟩ x true _ HX3.out).mono ?_
    rintro e w1 ⟨rfl, d1⟩
    have B1 := Aside0.mk d1.below
    clear d1
    go_wp2_with fail
    refine (atoi_calls x (by omega) _ (HL.out.below B1.out)).mono ?_
    rintro e w2 ⟨b2, ⟨v, hv, hv0, hv1, rfl⟩ | ⟨hno, v, tp, pv, rfl⟩⟩
    · have B2 := Aside0.mk (B1.out.trans (b2.mono B1.out.size))
      have HV := Aside0.mk hv
      clear b2 hv
      go_wp2_with fail
      refine (man_Name.calls v ⟨hv0, hv1⟩ _ (HL.out.below B2.out)).mono ?_
      rintro e w3 ⟨rfl, b3⟩
      have B3 := Aside0.mk (B2.out.trans (b3.mono B2.out.size))
      clear b3
      obtain ⟨nm, hnm⟩ : ∃ nm, nameB 109 v 1 = nm := ⟨_, rfl⟩
      have HNM := Aside0.mk hnm
      rw [hnm]
      clear hnm
      have HEQ := Aside0.mk (show (nm.toList == s.toList) = true ↔ nm = s from ⟨fun h => WideShapes.bytes_inj (by have := eq_of_beq h; rw [Lib.toList_data, Lib.toList_data] at this; exact this), fun h => by rw [h]; exact beq_self_eq_true _⟩)
      cases hb : (nm.toList == s.toList) with
      | true =>
        have HS := Aside0.mk (HEQ.out.1 hb)
        go_wp2_with fail
        refine bodyPost_ret (results_tmp2 rfl _ _ _) rfl ?_
        have h1 : nameL 109 v 1 = L s := by
          have := congrArg L HS.out
          rw [← HNM.out] at this
          unfold nameB at this
          rwa [L_B] at this
        obtain ⟨h2, h3⟩ := name_isV (by rw [HX.out]; exact fun e => by cases e) h1
        exact ⟨⟨(v, true), Or.inl ⟨v.toNat, h2, by rw [Int.toNat_of_nonneg h3]⟩, rfl⟩, B3.out⟩
      | false =>
        go_wp2_with fail
        refine bodyPost_ret (results_tmp2 rfl _ _ _) rfl ?_
        refine ⟨⟨(0, false), Or.inr ⟨fun n hn => ?_, rfl⟩, rfl⟩, B3.out⟩
        have h1 : L x = six n := by
          have := hn.2.2
          rw [HX.out] at this
          injection this
        have h2 := six_atoi hn.2.1
        rw [← h1, HV.out] at h2
        injection h2 with h2
        have h3 := isV_name hn
        rw [← h2] at h3
        have h4 : nm = s := by
          rw [← HNM.out]
          unfold nameB
          rw [h3]
          exact L_inj (L_B _)
        rw [HEQ.out.2 h4] at hb
        cases hb
    · have B2 := Aside0.mk (B1.out.trans (b2.mono B1.out.size))
      have HNO := Aside0.mk hno
      clear b2 hno
      go_wp2_with fail
      refine bodyPost_ret (results_tmp2 rfl _ _ _) rfl ?_
      refine ⟨⟨(0, false), Or.inr ⟨fun n hn => ?_, rfl⟩, rfl⟩, B2.out⟩
      have h1 : L x = six n := by
        have := hn.2.2
        rw [HX.out] at this
        injection this
      exact HNO.out n (by rw [h1]; exact six_atoi hn.2.1)
  · have HX := Aside0.mk hx1
    have HX3 := Aside0.mk hx3
    clear hx1 hx3
    go_wp2_with fail
    refine (strings_CutPrefix.calls s ⟨#[109]⟩ x false _ HX3.out).mono ?_
    rintro e w1 ⟨rfl, d1⟩
    have B1 := Aside0.mk d1.below
    clear d1
    go_wp2_with fail
    refine (atoi_calls x (by omega) _ (HL.out.below B1.out)).mono ?_
    rintro e w2 ⟨b2, h⟩
    have B2 := Aside0.mk (B1.out.trans (b2.mono B1.out.size))
    clear b2
    obtain ⟨v, ev, rfl⟩ : ∃ (v : Int) (ev : Value), e = .returned (.tuple #[.int .i64 v, ev]) := by
      rcases h with ⟨v, _, _, _, h⟩ | ⟨_, v, tp, pv, h⟩
      · exact ⟨v, _, h⟩
      · exact ⟨v, _, h⟩
    clear h
    go_wp2_with fail
    refine bodyPost_ret (results_tmp2 rfl _ _ _) rfl ?_
    exact ⟨⟨(0, false), Or.inr ⟨fun n hn => HX.out _ hn.2.2, rfl⟩, rfl⟩, B2.out⟩
end Go.Proofs.YtgampcbjmdgciaaDoor.Thw
