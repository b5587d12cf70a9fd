/- Several texts of mine in one (Ev08a, Ev08b, Ev08c, Ev08w, Ev08d, Ev08e, Ev08f, Ev08g). -/
import Derived.Test.YthndpknocofioaaGreatDoorHead
import Derived.Test.YthndpknocofioaaGreatDoorShelf
import Derived.Shelf.Strconv.Itoa3
import Derived.Shelf.Strconv.AtoiAll
import Derived.Shelf.Strconv.ErrVarAll
import Derived.Shelf.Strings.Repeat
import Derived.Lib.AppendIntMem
import Derived.Test.YthndpknocofioaaGreatDoorMP8
import Derived.Test.YthndpknocofioaaGreatDoorME8
import Derived.Test.YthndpknocofioaaGreatDoorRows
import Derived.Test.YthndpknocofioaaGreatDoorPrint4
import Derived.Test.YthndpknocofioaaGreatDoorMD8
import Derived.Test.YthndpknocofioaaGreatDoorPrint8
import Derived.Test.YthndpknocofioaaGreatDoorPrint10
import Derived.Test.YthndpknocofioaaGreatDoorPrint9
import Derived.Test.YthndpknocofioaaGreatDoorPrint5
import Derived.Sort.OwnSortedInts
import Derived.WalkMore
import Derived.Shelf.SortM.Plain
import Derived.Test.YthndpknocofioaaGreatDoorPrint1
import Derived.Test.YthndpknocofioaaGreatDoorPrint2
/-! ## Layer 8: what start-up code has laid; the names. -/
namespace Go.Proofs.YthndpknocofioaaGreatDoor.Thw
open Go Go.RowKit Go.Proofs.YthndpknocofioaaGreatDoor.Print Go.Proofs.YthndpknocofioaaGreatDoorW.PrintWords Go.Proofs.YthndpknocofioaaGreatDoorW.PrintLast Go.Proofs.YthndpknocofioaaGreatDoorW.PrintMore
set_option linter.unusedVariables false
set_option linter.unusedSimpArgs false
/-- The names of the laid variables, as the row lists them. -/
def laidN (k : Nat) : String := ((Rows.segmentNamesRow.laid[k]?).map (·.1)).getD default
/-- What start-up code has laid and the walks read: the powers of ten, two errors. -/
structure LaidW (w : World) : Prop where
  tab : Go.Lib.TabIs Tryz.prog w (laidN 2) .u64 Go.Lib.pow10Tab
  rng : ∃ tp p, w.var? Tryz.prog (laidN 3) = some #[.iface tp p]
  syn : ∃ tp p, w.var? Tryz.prog (laidN 4) = some #[.iface tp p]
theorem var_below {P : Program} {w w' : World} {n : String} {cs : Array Value} (h : w.var? P n = some cs) (hb : Below w.heap.size w w') : w'.var? P n = some cs := by
  unfold World.var? at h ⊢
  cases hg : P.globalNamed n with
  | none => rw [hg] at h; cases h
  | some g =>
    rw [hg] at h
    simp only [Option.bind_some] at h ⊢
    have hlt : g < w.heap.size := by
      apply Classical.byContradiction
      intro hn
      rw [Array.getElem?_eq_none (by omega)] at h
      cases h
    rw [hb.block g hlt]
    exact h
theorem LaidW.below {w w' : World} (h : LaidW w) (hb : Below w.heap.size w w') : LaidW w' := by
  obtain ⟨h1, ⟨t2, p2, h2⟩, ⟨t3, p3, h3⟩⟩ := h
  exact ⟨var_below h1 hb, ⟨t2, p2, var_below h2 hb⟩, ⟨t3, p3, var_below h3 hb⟩⟩
theorem itoa_calls (n : Int) (h0 : -9223372036854775808 ≤ n) (h1 : n ≤ 9223372036854775807) (w : World) (hL : LaidW w) :
    Calls Tryz.prog 90 #[.int .i64 n] w fun e w' => e = .returned (.string ⟨(Go.Lib.itoa n).toArray⟩) ∧ Below w.heap.size w w' := by
  refine (show Calls Tryz.prog 90 _ _ _ from Any.strconv_Itoa Tryz.itoa n h0 h1 w hL.tab).mono ?_
  rintro e w' ⟨rfl, k, os, rfl⟩
  exact ⟨rfl, Go.Lib.below_grow _ w (Nat.le_refl _) k os⟩
theorem rptExtra : Builder.Extra Tryz.prog Tryz.rpt_ren where
  sizeBuilder := by kernel_rfl
  liesBuilder := by kernel_rfl
  t5 := Tryz.rpt.t5
  a5 := Tryz.rpt.a5
  z5 := Tryz.rpt.z5
  v5 := Tryz.rpt.v5
  infoByte := by kernel_rfl
  cellsByte := by kernel_rfl
  sizeByte := by kernel_rfl
  neB5 := by decide
theorem repeat_calls (s : ByteArray) (c : Nat) (w : World) (hc : c ≤ 9223372036854775807) (hlen : s.size * c ≤ 140737488355328) :
    Calls Tryz.prog 91 #[.string s, .int .i64 c] w fun e w' => e = .returned (.string ⟨(Go.Lib.repeatL s.data.toList c).toArray⟩) ∧ Below w.heap.size w w' :=
  show Calls Tryz.prog 91 _ _ _ from Any.strings_Repeat Tryz.rpt rptExtra s c w hc hlen
/-- The name of a number behind a letter. -/
def nameB (c : UInt8) (n from_ : Int) : ByteArray := B (nameL c n from_)
theorem itoa_nat (n : Int) (h0 : 0 ≤ n) : Go.Lib.itoa n = Go.Lib.decDigits n.toNat := by unfold Go.Lib.itoa; rw [if_neg (by omega)]
theorem name_join (c : UInt8) (n : Int) (h0 : 0 ≤ n) (h1 : n ≤ 999999) : Go.Lib.nDigits n.toNat ≤ 6 ∧ (⟨#[c]⟩ : ByteArray) ++ ⟨(Go.Lib.repeatL [48] (6 - Go.Lib.nDigits n.toNat)).toArray⟩ ++ ⟨(Go.Lib.itoa n).toArray⟩ = B (c :: six n.toNat) := by
  obtain ⟨h2, h3⟩ := digs_pad 5 n.toNat (by omega)
  refine ⟨h2, ?_⟩
  rw [itoa_nat n h0]
  apply ByteArray.ext
  apply Array.ext'
  have e : six n.toNat = digs (5 + 1) n.toNat := rfl
  rw [e, ← h3]
  simp [B]

/-- The segment that a name tells. -/
def IsN (s : List UInt8) (n : Nat) : Prop := n ≤ 999999 ∧ s = 115 :: six n
theorem IsN.uniq {s : List UInt8} {n m : Nat} (h : IsN s n) (h' : IsN s m) : n = m := by
  have := h.2.symm.trans h'.2
  injection this with _ this
  exact six_inj h.1 h'.1 this
theorem name_isN {s : List UInt8} {n : Int} (hs : s ≠ []) (h : nameL 115 n 0 = s) : IsN s n.toNat ∧ 0 ≤ n := by
  unfold nameL at h
  split at h
  · exact absurd h.symm hs
  · exact ⟨⟨by omega, h.symm⟩, by omega⟩
theorem isN_name {s : List UInt8} {n : Nat} (h : IsN s n) : nameL 115 (n : Int) 0 = s := by
  obtain ⟨h1, h2⟩ := h
  unfold nameL
  rw [if_neg (by omega), h2]
  rfl
def rightN (n : Int) : Bool := decide (0 ≤ n) && decide (n ≤ 999999)
theorem seg_right.calls (n : Int) (w : World) : Calls Tryz.prog 57 #[.int .i64 n] w fun e w' => e = .returned (.bool (rightN n)) ∧ w = w' := by
  go_enter Tryz.func57, Tryz.ntmps57
  by_cases h1 : 0 ≤ n
  · have d1 : decide (0 ≤ n) = true := decide_eq_true h1
    have e1 : rightN n = decide (n ≤ 999999) := by unfold rightN; rw [d1]; rfl
    rw [e1]
    go_wp2_with fail
    go_ret
    exact ⟨rfl, rfl⟩
  · have d1 : decide (0 ≤ n) = false := decide_eq_false h1
    have e1 : rightN n = false := by unfold rightN; rw [d1]; rfl
    rw [e1]
    go_wp2_with fail
    go_ret
    exact ⟨rfl, rfl⟩
set_option maxHeartbeats 1600000 in
theorem seg_name.calls (c : UInt8) (n : Int) (hn : -9223372036854775808 ≤ n ∧ n ≤ 9223372036854775807) (w : World) (hL : LaidW w) :
    Calls Tryz.prog 53 #[.string ⟨#[c]⟩, .int .i64 n] w fun e w' => e = .returned (.string (nameB c n 0)) ∧ Below w.heap.size w w' := by
  have HL := Aside0.mk hL
  clear hL
  go_enter Tryz.func53, Tryz.ntmps53
  cases hr : rightN n with
  | false =>
    have HR := Aside0.mk (show nameB c n 0 = ⟨#[]⟩ by
      unfold nameB nameL
      rw [if_pos (by unfold rightN at hr; simp at hr; omega)]
      rfl)
    have HF := Aside0.mk hr
    clear hr
    rw [HR.out]
    go_wp2_with fail
    refine (seg_right.calls n _).mono ?_
    rintro e w1 ⟨rfl, rfl⟩
    rw [HF.out]
    go_wp2_with fail
    go_ret
    exact ⟨rfl, Below.refl _ _⟩
  | true =>
    have HR := Aside0.mk (show nameB c n 0 = B (c :: six n.toNat) by unfold nameB nameL; rw [if_neg (by unfold rightN at hr; simp at hr; omega)])
    have h1 : 0 ≤ n ∧ n ≤ 999999 := by unfold rightN at hr; simp at hr; exact hr
    have HF := Aside0.mk hr
    clear hr
    rw [HR.out]
    go_wp2_with fail
    refine (seg_right.calls n _).mono ?_
    rintro e w0 ⟨rfl, rfl⟩
    rw [HF.out]
    obtain ⟨h1, h2⟩ := h1
    go_wp2_with fail
    refine (itoa_calls n hn.1 hn.2 _ HL.out).mono ?_
    rintro e w1 ⟨rfl, b1⟩
    have B1 := Aside0.mk b1
    clear b1
    have hn0 : 0 ≤ n := h1
    obtain ⟨hd6, hj⟩ := name_join c n hn0 h2
    have HJ := Aside0.mk hj
    clear hj
    obtain ⟨s1, hs1⟩ : ∃ s : ByteArray, (⟨(Go.Lib.itoa n).toArray⟩ : ByteArray) = s := ⟨_, rfl⟩
    have hz : s1.size = Go.Lib.nDigits n.toNat := by
      rw [← hs1, itoa_nat n hn0]
      show (Go.Lib.decDigits n.toNat).toArray.size = _
      rw [List.size_toArray, Go.Lib.decDigits_length]
    rw [hs1] at HJ ⊢
    obtain ⟨d, hd⟩ : ∃ d, Go.Lib.nDigits n.toNat = d := ⟨_, rfl⟩
    rw [hd] at HJ hz hd6
    have hzi : (s1.size : Int) = (d : Int) := by omega
    have HZ := Aside0.mk hz
    clear hz hs1 hd hn0
    go_wp2_with fail
    have e6 : (6 : Int) - (d : Int) = ((6 - d : Nat) : Int) := by omega
    rw [e6]
    refine (repeat_calls ⟨#[48]⟩ (6 - d) _ (by omega) (by show 1 * (6 - d) ≤ 140737488355328; omega)).mono ?_
    rintro e w2 ⟨rfl, b2⟩
    have B2 := Aside0.mk (B1.out.trans (b2.mono B1.out.size))
    clear b2
    have e48 : (⟨#[48]⟩ : ByteArray).data.toList = [48] := rfl
    rw [e48]
    obtain ⟨r1, hr1⟩ : ∃ r : ByteArray, (⟨(Go.Lib.repeatL [48] (6 - d)).toArray⟩ : ByteArray) = r := ⟨_, rfl⟩
    have hz2 : r1.size ≤ 6 := by
      rw [← hr1]
      show (Go.Lib.repeatL [48] (6 - d)).toArray.size ≤ 6
      rw [List.size_toArray, Go.Lib.repeatL_length]
      simp
    rw [hr1] at HJ ⊢
    have hz := HZ.out
    clear hr1 e48
    go_wp2_with fail
    go_ret
    exact ⟨congrArg _ (congrArg _ HJ.out), B2.out⟩
theorem seg_Name.calls (n : Int) (hn : -9223372036854775808 ≤ n ∧ n ≤ 9223372036854775807) (w : World) (hL : LaidW w) :
    Calls Tryz.prog 10 #[.int .i64 n] w fun e w' => e = .returned (.string (nameB 115 n 0)) ∧ Below w.heap.size w w' := by
  go_enter Tryz.func10, Tryz.ntmps10
  go_wp2_with fail
  refine (seg_name.calls 115 n hn _ hL).mono ?_
  rintro e w1 ⟨rfl, b1⟩
  go_wp2_with fail
  go_ret
  exact ⟨rfl, b1⟩
theorem seg_Hints.calls (n : Int) (hn : -9223372036854775808 ≤ n ∧ n ≤ 9223372036854775807) (w : World) (hL : LaidW w) :
    Calls Tryz.prog 12 #[.int .i64 n] w fun e w' => e = .returned (.string (nameB 104 n 0)) ∧ Below w.heap.size w w' := by
  go_enter Tryz.func12, Tryz.ntmps12
  go_wp2_with fail
  refine (seg_name.calls 104 n hn _ hL).mono ?_
  rintro e w1 ⟨rfl, b1⟩
  go_wp2_with fail
  go_ret
  exact ⟨rfl, b1⟩
/-- What a prefix cut comes to. -/
theorem cut_s (s : ByteArray) (hs : s.size ≤ 4611686018427387904) : (∃ x : ByteArray, L s = 115 :: L x ∧ x.size + 1 = s.size ∧ strings_CutPrefix.f s ⟨#[115]⟩ = some (x, true)) ∨ ((∀ l, L s ≠ 115 :: l) ∧ ∃ x, x.size ≤ s.size ∧ strings_CutPrefix.f s ⟨#[115]⟩ = some (x, false)) := by
  have h1 : (⟨#[115]⟩ : ByteArray).size = 1 := rfl
  unfold strings_CutPrefix.f stringslite_CutPrefix.f stringslite_HasPrefix.f
  rw [h1]
  by_cases h2 : 1 ≤ s.size
  · have e0 : ((1 : Nat) : Int).toNat = 1 := rfl
    rw [if_pos (show (s.size : Int) ≥ ((1 : Nat) : Int) by omega), if_pos (show (0 : Int) ≤ ((1 : Nat) : Int) by omega), if_pos (show ((1 : Nat) : Int) ≤ (s.size : Int) by omega), e0]
    try simp only [Option.bind_some]
    have hL1 : L (s.extract 0 1) = (L s).take 1 := L_extract_front s 1
    have hL2 : L (s.extract 1 s.size) = (L s).drop 1 := L_extract_end s 1
    have hb : ((s.extract 0 1).toList == (⟨#[115]⟩ : ByteArray).toList) = decide ((L s).take 1 = [115]) := by
      rw [Bool.eq_iff_iff, beq_iff_eq, decide_eq_true_eq, Lib.toList_data, Lib.toList_data]
      show L (s.extract 0 1) = [115] ↔ _
      rw [hL1]
    rw [hb]
    by_cases h3 : (L s).take 1 = [115]
    · rw [decide_eq_true h3, if_pos rfl]
      try simp only [Option.bind_some]
      refine Or.inl ⟨s.extract 1 s.size, ?_, ?_, by rw [if_pos (show (0 : Int) ≤ ((1 : Nat) : Int) by omega), if_pos (show ((1 : Nat) : Int) ≤ (s.size : Int) by omega)]; rfl⟩
      · rw [hL2, ← List.take_append_drop 1 (L s), h3]
        simp
      · have := congrArg List.length hL2
        rw [L_length, List.length_drop, L_length] at this
        omega
    · rw [decide_eq_false h3, if_neg (by simp)]
      try simp only [Option.bind_some]
      refine Or.inr ⟨fun l e => h3 (by rw [e]; rfl), s, Nat.le_refl _, rfl⟩
  · rw [if_neg (show ¬ (s.size : Int) ≥ ((1 : Nat) : Int) by omega)]
    try simp only [Option.bind_some]
    rw [if_neg (by simp)]
    refine Or.inr ⟨fun l e => ?_, s, Nat.le_refl _, rfl⟩
    have := congrArg List.length e
    rw [L_length] at this
    simp at this
    omega
/-- The segment that a name tells, if any. -/
def segO (s : ByteArray) (r : Int × Bool) : Prop := (∃ n, IsN (L s) n ∧ r = ((n : Int), true)) ∨ ((∀ n, ¬ IsN (L s) n) ∧ r = (0, false))
def AtoiPost (s : ByteArray) (w : World) (e : Ending) (w' : World) : Prop :=
  Below w.heap.size w w' ∧ ((∃ v, Go.Lib.atoiAll (L s) = .ok v ∧ -9223372036854775808 ≤ v ∧ v ≤ 9223372036854775807 ∧ e = .returned (.tuple #[.int .i64 v, .nilIface])) ∨
    ((∀ v, Go.Lib.atoiAll (L s) ≠ .ok v) ∧ ∃ v tp p, e = .returned (.tuple #[.int .i64 v, .iface tp p])))
theorem atoi_calls (s : ByteArray) (hs : s.size ≤ 1000000) (w : World) (hL : LaidW w) : Calls Tryz.prog 52 #[.string s] w (AtoiPost s w) := by
  obtain ⟨_, ⟨t2, p2, h2⟩, ⟨t3, p3, h3⟩⟩ := hL
  rcases h : Go.Lib.atoiAll s.data.toList with v | _ | _
  · refine (show Calls Tryz.prog 52 _ _ _ from Any.strconv_Atoi_ok Tryz.atoi s (by omega) v h w).mono ?_
    rintro e w' ⟨rfl, hw⟩
    have hb := Go.Lib.atoiAll_bounds h
    refine ⟨?_, Or.inl ⟨v, h, by omega, by omega, rfl⟩⟩
    rcases hw with rfl | ⟨t, rfl⟩
    · exact Below.refl _ _
    · exact Go.Lib.bytesWorld_below _ _ _
  · refine (show Calls Tryz.prog 52 _ _ _ from Any.strconv_Atoi_syntax_var Tryz.atoi s (by omega) h t3 p3 w h3).mono ?_
    rintro e w' ⟨N, rfl, _, _, hb⟩
    exact ⟨hb, Or.inr ⟨(fun v e => by rw [show Go.Lib.atoiAll (L s) = _ from h] at e; cases e), _, _, _, rfl⟩⟩
  · refine (show Calls Tryz.prog 52 _ _ _ from Any.strconv_Atoi_range_var Tryz.atoi s (by omega) h t2 p2 w h2).mono ?_
    rintro e w' ⟨N, rfl, _, _, hb⟩
    exact ⟨hb, Or.inr ⟨(fun v e => by rw [show Go.Lib.atoiAll (L s) = _ from h] at e; cases e), _, _, _, rfl⟩⟩
set_option maxHeartbeats 1600000 in
theorem seg_Number.calls (s : ByteArray) (hs : s.size ≤ 1000000) (w : World) (hL : LaidW w) :
    Calls Tryz.prog 8 #[.string s] w fun e w' => (∃ r, segO s r ∧ e = .returned (.tuple #[.int .i64 r.1, .bool r.2])) ∧ Below w.heap.size w w' := by
  have HL := Aside0.mk hL
  clear hL
  go_enter Tryz.func8, Tryz.ntmps8
  rcases cut_s s (by omega) with ⟨x, hx1, hx2, hx3⟩ | ⟨hx1, x, hx2, hx3⟩
  · have HX := Aside0.mk hx1
    have HX3 := Aside0.mk hx3
    clear hx1 hx3
    go_wp2_with fail
    refine (strings_CutPrefix.calls s ⟨#[115]⟩ x true _ HX3.out).mono ?_
    rintro e w1 ⟨rfl, d1⟩
    have B1 := Aside0.mk d1.below
    clear d1
    go_wp2_with fail
    refine (atoi_calls x (by omega) _ (HL.out.below B1.out)).mono ?_
    rintro e w2 ⟨b2, ⟨v, hv, hv0, hv1, rfl⟩ | ⟨hno, v, tp, pv, rfl⟩⟩
    · have B2 := Aside0.mk (B1.out.trans (b2.mono B1.out.size))
      have HV := Aside0.mk hv
      clear b2 hv
      go_wp2_with fail
      refine (seg_Name.calls v ⟨hv0, hv1⟩ _ (HL.out.below B2.out)).mono ?_
      rintro e w3 ⟨rfl, b3⟩
      have B3 := Aside0.mk (B2.out.trans (b3.mono B2.out.size))
      clear b3
      obtain ⟨nm, hnm⟩ : ∃ nm, nameB 115 v 0 = nm := ⟨_, rfl⟩
      have HNM := Aside0.mk hnm
      rw [hnm]
      clear hnm
      have HEQ := Aside0.mk (show (nm.toList == s.toList) = true ↔ nm = s from ⟨fun h => WideShapes.bytes_inj (by have := eq_of_beq h; rw [Lib.toList_data, Lib.toList_data] at this; exact this), fun h => by rw [h]; exact beq_self_eq_true _⟩)
      cases hb : (nm.toList == s.toList) with
      | true =>
        have HS := Aside0.mk (HEQ.out.1 hb)
        go_wp2_with fail
        refine bodyPost_ret (results_tmp2 rfl _ _ _) rfl ?_
        have h1 : nameL 115 v 0 = L s := by
          have := congrArg L HS.out
          rw [← HNM.out] at this
          unfold nameB at this
          rwa [L_B] at this
        obtain ⟨h2, h3⟩ := name_isN (by rw [HX.out]; exact fun e => by cases e) h1
        exact ⟨⟨(v, true), Or.inl ⟨v.toNat, h2, by rw [Int.toNat_of_nonneg h3]⟩, rfl⟩, B3.out⟩
      | false =>
        go_wp2_with fail
        refine bodyPost_ret (results_tmp2 rfl _ _ _) rfl ?_
        refine ⟨⟨(0, false), Or.inr ⟨fun n hn => ?_, rfl⟩, rfl⟩, B3.out⟩
        have h1 : L x = six n := by
          have := hn.2
          rw [HX.out] at this
          injection this
        have h2 := six_atoi hn.1
        rw [← h1, HV.out] at h2
        injection h2 with h2
        have h3 := isN_name hn
        rw [← h2] at h3
        have h4 : nm = s := by
          rw [← HNM.out]
          unfold nameB
          rw [h3]
          exact L_inj (L_B _)
        rw [HEQ.out.2 h4] at hb
        cases hb
    · have B2 := Aside0.mk (B1.out.trans (b2.mono B1.out.size))
      have HNO := Aside0.mk hno
      clear b2 hno
      go_wp2_with fail
      refine bodyPost_ret (results_tmp2 rfl _ _ _) rfl ?_
      refine ⟨⟨(0, false), Or.inr ⟨fun n hn => ?_, rfl⟩, rfl⟩, B2.out⟩
      have h1 : L x = six n := by
        have := hn.2
        rw [HX.out] at this
        injection this
      exact HNO.out n (by rw [h1]; exact six_atoi hn.1)
  · have HX := Aside0.mk hx1
    have HX3 := Aside0.mk hx3
    clear hx1 hx3
    go_wp2_with fail
    refine (strings_CutPrefix.calls s ⟨#[115]⟩ x false _ HX3.out).mono ?_
    rintro e w1 ⟨rfl, d1⟩
    have B1 := Aside0.mk d1.below
    clear d1
    go_wp2_with fail
    refine (atoi_calls x (by omega) _ (HL.out.below B1.out)).mono ?_
    rintro e w2 ⟨b2, h⟩
    have B2 := Aside0.mk (B1.out.trans (b2.mono B1.out.size))
    clear b2
    obtain ⟨v, ev, rfl⟩ : ∃ (v : Int) (ev : Value), e = .returned (.tuple #[.int .i64 v, ev]) := by
      rcases h with ⟨v, _, _, _, h⟩ | ⟨_, v, tp, pv, h⟩
      · exact ⟨v, _, h⟩
      · exact ⟨v, _, h⟩
    clear h
    go_wp2_with fail
    refine bodyPost_ret (results_tmp2 rfl _ _ _) rfl ?_
    exact ⟨⟨(0, false), Or.inr ⟨fun n hn => HX.out _ hn.2, rfl⟩, rfl⟩, B2.out⟩
end Go.Proofs.YthndpknocofioaaGreatDoor.Thw
/-! ## Layer 8 (segment): what its functions do to a disk. -/
namespace Go.Proofs.YthndpknocofioaaGreatDoor.Thw
open Go Go.RowKit Go.Maps Go.Proofs.YthndpknocofioaaGreatDoor.Print Go.Proofs.YthndpknocofioaaGreatDoorW.PrintWords Go.Proofs.YthndpknocofioaaGreatDoorW.PrintLast Go.Proofs.YthndpknocofioaaGreatDoorW.PrintMore
set_option linter.unusedVariables false
set_option linter.unusedSimpArgs false
abbrev kE := k52
abbrev sgN (n : Int) : ByteArray := nameB 115 n 0
abbrev sgH (n : Int) : ByteArray := nameB 104 n 0
theorem nameB_size (c : UInt8) (n f : Int) : (nameB c n f).size ≤ 7 := by
  unfold nameB nameL
  split
  · show (B []).size ≤ 7; decide
  · rw [B_size, List.length_cons, six_length]; omega
theorem sgN_size (n : Int) : (sgN n).size ≤ 9223372036854775807 := by have := nameB_size 115 n 0; unfold sgN; omega
theorem sgH_size (n : Int) : (sgH n).size ≤ 9223372036854775807 := by have := nameB_size 104 n 0; unfold sgH; omega
def Dsk.bytes (st : Dsk) (name : ByteArray) : ByteArray × Int := match look st.m name with | none => (⟨#[]⟩, 5) | some f => (f.b, 0)
/-- The disk's files are small, its room is a number. -/
structure Dsk.Sm (N : Nat) (st : Dsk) : Prop where
  small : N ≤ 1000000
  room : 0 ≤ st.room ∧ st.room ≤ 1048576
  files : ∀ k f, look st.m k = some f → f.b.size ≤ N
theorem Dsk.Sm.fileOf {N : Nat} {st : Dsk} (h : st.Sm N) (k : ByteArray) : (st.fileOf k).b.size ≤ N := by
  unfold Dsk.fileOf
  cases hl : look st.m k with
  | none => exact Nat.zero_le _
  | some f => exact h.files k f hl
set_option maxHeartbeats 1600000 in
theorem seg_bytes.calls (w : World) (A : Nat → Prop) (d : Nat) (st : Dsk) {N : Nat} (h : DskAt w A d st) (name : ByteArray) (hn : name.size ≤ 9223372036854775807) (hs : st.Sm N) :
    Calls Tryz.prog 62 #[.pointer (some ⟨d, 0, none⟩), .string name] w fun e w' => e = .returned (.tuple #[.string (st.bytes name).1, .int .i64 (st.bytes name).2]) ∧ Below w.heap.size w w' := by
  have H := Aside0.mk h
  have HN := Aside0.mk hn
  have HS := Aside0.mk hs
  have HZ := Aside0.mk (disk_Size.calls w A d st h name hn)
  clear h hn hs
  obtain ⟨X, hX⟩ : ∃ X, st.bytes name = X := ⟨_, rfl⟩
  rw [hX]
  have HX := Aside0.mk hX
  clear hX
  go_enter Tryz.func62, Tryz.ntmps62
  go_wp2_with fail
  refine HZ.out.mono ?_
  rintro e w1 ⟨rfl, b1⟩
  cases hl : look st.m name with
  | none =>
    have e1 := Aside0.mk (show st.bytes name = (⟨#[]⟩, 5) by simp [Dsk.bytes, hl])
    rw [show st.size name = (0, 5) by simp [Dsk.size, hl]]
    replace e1 := Aside0.mk (e1.out.symm.trans HX.out)
    go_wp2_with fail
    go_ret2
    rw [← e1.out]
    exact ⟨rfl, b1⟩
  | some f =>
    have e1 := Aside0.mk (show st.bytes name = (f.b, 0) by simp [Dsk.bytes, hl])
    rw [show st.size name = ((f.b.size : Int), 0) by simp [Dsk.size, hl]]
    replace e1 := Aside0.mk (e1.out.symm.trans HX.out)
    have hf := HS.out.files name f hl
    have hN := HS.out.small
    have e2 := Aside0.mk (show st.read name 0 (f.b.size : Int) = (f.b, 0) by
      simp only [Dsk.read, hl]
      rw [if_neg (by omega)]
      congr 1
      have : (0 + (f.b.size : Int)).toNat = f.b.size := by omega
      rw [this]
      simp)
    have B1 := Aside0.mk b1
    clear b1 hf hN hl
    go_wp2_with fail
    refine (disk_Read.calls w1 A d st (H.out.below B1.out) name HN.out 0 (f.b.size : Int) (fun g hg => by have := HS.out.files name g hg; have := HS.out.small; omega)).mono ?_
    rintro e w2 ⟨rfl, b2⟩
    have B2 := Aside0.mk (B1.out.trans (b2.mono B1.out.size))
    rw [e2.out]
    clear b2
    go_wp2_with fail
    go_ret2
    rw [← e1.out]
    exact ⟨rfl, B2.out⟩
theorem bytes_cases {N : Nat} {st : Dsk} (hs : st.Sm N) (k : ByteArray) : (∃ b, st.bytes k = (b, 0) ∧ b.size ≤ N) ∨ st.bytes k = (⟨#[]⟩, 5) := by
  unfold Dsk.bytes
  cases hl : look st.m k with
  | none => exact Or.inr rfl
  | some f => exact Or.inl ⟨f.b, rfl, hs.files k f hl⟩
/-! ### what they come to -/
def segWrite (st : Dsk) (n : Int) (l : List Rec) : Dsk × List Ent × Int :=
  if rightN n = true then
    if (frameS l).2 = 0 then
      if (st.append (sgN n) (B (frameS l).1)).2 = 0 then ((st.append (sgN n) (B (frameS l).1)).1, (ofS (frameS l).1).1.map (shiftE (st.size (sgN n)).1), 0)
      else ((st.append (sgN n) (B (frameS l).1)).1, [], (st.append (sgN n) (B (frameS l).1)).2)
    else (st, [], (frameS l).2)
  else (st, [], 1)
def segGet (st : Dsk) (n : Int) (e : Ent) : Rec × Int :=
  if rightN n = true then (if (st.bytes (sgN n)).2 = 0 then atE (L (st.bytes (sgN n)).1) e else (rec0, (st.bytes (sgN n)).2)) else (rec0, 1)
def segLoad (st : Dsk) (n : Int) : Dsk × List Ent × Int :=
  if rightN n = true then
    if (st.bytes (sgN n)).2 = 0 then
      if (ofS (L (st.bytes (sgN n)).1)).2 < (st.bytes (sgN n)).1.size then
        if (st.cut (sgN n) (ofS (L (st.bytes (sgN n)).1)).2).2 = 0 then ((st.cut (sgN n) (ofS (L (st.bytes (sgN n)).1)).2).1, (ofS (L (st.bytes (sgN n)).1)).1, 0)
        else ((st.cut (sgN n) (ofS (L (st.bytes (sgN n)).1)).2).1, [], (st.cut (sgN n) (ofS (L (st.bytes (sgN n)).1)).2).2)
      else (st, (ofS (L (st.bytes (sgN n)).1)).1, 0)
    else (st, [], (st.bytes (sgN n)).2)
  else (st, [], 1)
def segLay (st : Dsk) (n : Int) (b : ByteArray) : Dsk × Int :=
  if (st.append (sgH n) b).2 = 0 then (st.append (sgH n) b).1.sync (sgH n) else st.append (sgH n) b
def segHint (st : Dsk) (n : Int) (l : List Ent) : Dsk × Int :=
  if rightN n = true then
    if (bytesE l).2 = 0 then
      if (st.size (sgH n)).2 = 0 then
        if (st.remove (sgH n)).2 = 0 then segLay (st.remove (sgH n)).1 n (B (bytesE l).1) else st.remove (sgH n)
      else segLay st n (B (bytesE l).1)
    else (st, (bytesE l).2)
  else (st, 1)
def segSeal (st : Dsk) (n : Int) : Dsk × Int := if (segLoad st n).2.2 = 0 then segHint (segLoad st n).1 n (segLoad st n).2.1 else ((segLoad st n).1, (segLoad st n).2.2)
def segTold (st : Dsk) (n : Int) : List Ent × Int :=
  if rightN n = true then (if (st.bytes (sgH n)).2 = 0 then readE (L (st.bytes (sgH n)).1) else ([], (st.bytes (sgH n)).2)) else ([], 1)
def segIndex (st : Dsk) (n : Int) : Dsk × List Ent × Int := if (segTold st n).2 = 0 ∨ (segTold st n).2 = 1 then (st, segTold st n) else segLoad st n
/-- Entries are told, and the disk has turned; what tells them lies apart from the disk. -/
def EntPost (w : World) (A : Nat → Prop) (d : Nat) (x : Dsk × List Ent × Int) (e : Ending) (w' : World) : Prop :=
  ∃ v T, e = .returned (.tuple #[v, .int .i64 x.2.2]) ∧ DskAt w' T d x.1 ∧ (∀ k, T k → gr A w k ∧ k < w'.heap.size) ∧ Kd.R kE 52 w' w.heap.size (fun k => ¬ T k) v (x.2.1.map ES) ∧ Frm A w w'
theorem ent_still {w w' : World} {A : Nat → Prop} {d : Nat} {st : Dsk} {es : List SE} {v : Value} {c : Int} (h : DskAt w A d st) (hA : ∀ k, A k → k < w.heap.size) (b : Below w.heap.size w w') {ok : Nat → Prop} (hR : Kd.R kE 52 w' w.heap.size ok v es) :
    ∃ v' T, Ending.returned (.tuple #[v, .int .i64 c]) = .returned (.tuple #[v', .int .i64 c]) ∧ DskAt w' T d st ∧ (∀ k, T k → gr A w k ∧ k < w'.heap.size) ∧ Kd.R kE 52 w' w.heap.size (fun k => ¬ T k) v' es ∧ Frm A w w' :=
  ⟨v, A, rfl, h.below b, fun k hk => ⟨Or.inl hk, Nat.lt_of_lt_of_le (hA k hk) b.size⟩, Kd.R_mono (Kd.R_bound hR) (fun k hk ha => by have := hA k ha; have := hk.2.1; omega), Frm.of_new b⟩
def DiskPost (w : World) (A : Nat → Prop) (d : Nat) (x : Dsk × Int) (e : Ending) (w' : World) : Prop :=
  e = .returned (.int .i64 x.2) ∧ DskAt w' (fun k => gr A w k ∧ k < w'.heap.size) d x.1 ∧ Frm A w w'
theorem results_row_tmp {P : Program} {fn : Func} {p q : Tmp} {ty : TypeId} (h : fn.results = #[.cell p ty, .tmp q]) (tmps : Array Value) (w : World) (g : Nat) (t : TypeId) (cs : Array Value) (fr : Nat × Nat) (d : TypeDesc)
    (hp : tmps.getD p undef = .pointer (some ⟨g, 0, none⟩)) (hg : w.heap[g]? = some (.cells cs t fr))
    (hu : P.underlying ty = some d) (hd : (match d with | .struct _ | .array _ _ => true | _ => false) = true) (hi : (P.info? ty).map (·.size) = some cs.size) :
    (results fn tmps).run P w = .ok (.tuple #[.agg cs, tmps.getD q undef]) w := by
  have hp' : tmps[p]?.getD undef = .pointer (some ⟨g, 0, none⟩) := by simpa using hp
  simp [results, h, hp', asAddr, run_loadVar_row w g t ty cs fr d hg hu hd hi]
theorem rec_put {w : World} {g : Nat} {v0 v1 v2 v3 : Value} {t : TypeId} (h : w.heap[g]? = some (.cells #[v0, v1, v2, v3] t)) (u0 u1 u2 u3 : Value) :
    ((((w.setCell ⟨g, 0, none⟩ u0).setCell ⟨g, 1, none⟩ u1).setCell ⟨g, 2, none⟩ u2).setCell ⟨g, 3, none⟩ u3).heap[g]? = some (.cells #[u0, u1, u2, u3] t) := by
  simp [World.setCell, Array.getElem?_modify, h]
theorem below_put4 {w0 w : World} {B g : Nat} (h : Below B w0 w) (hg : B ≤ g) (u0 u1 u2 u3 : Value) : Below B w0 ((((w.setCell ⟨g, 0, none⟩ u0).setCell ⟨g, 1, none⟩ u1).setCell ⟨g, 2, none⟩ u2).setCell ⟨g, 3, none⟩ u3) :=
  (((h.setCell (p := ⟨g, 0, none⟩) hg u0).setCell (p := ⟨g, 1, none⟩) hg u1).setCell (p := ⟨g, 2, none⟩) hg u2).setCell (p := ⟨g, 3, none⟩) hg u3
theorem cells5f {w : World} {s : Nat} {v0 v1 v2 v3 v4 : Value} {t : TypeId} (h : w.heap[s]? = some (.cells #[v0, v1, v2, v3, v4] t)) :
    w.cell? ⟨s, 0, none⟩ = some v0 ∧ w.cell? ⟨s, 1, none⟩ = some v1 ∧ w.cell? ⟨s, 2, none⟩ = some v2 ∧ w.cell? ⟨s, 3, none⟩ = some v3 ∧ w.cell? ⟨s, 4, none⟩ = some v4 ∧ ∀ i, w.frozen? ⟨s, i, none⟩ = false := by
  refine ⟨?_, ?_, ?_, ?_, ?_, fun i => ?_⟩ <;> simp [World.cell?, World.frozen?, h]
theorem cells4f {w : World} {s : Nat} {v0 v1 v2 v3 : Value} {t : TypeId} (h : w.heap[s]? = some (.cells #[v0, v1, v2, v3] t)) :
    w.cell? ⟨s, 0, none⟩ = some v0 ∧ w.cell? ⟨s, 1, none⟩ = some v1 ∧ w.cell? ⟨s, 2, none⟩ = some v2 ∧ w.cell? ⟨s, 3, none⟩ = some v3 ∧ ∀ i, w.frozen? ⟨s, i, none⟩ = false := by
  refine ⟨?_, ?_, ?_, ?_, fun i => ?_⟩ <;> simp [World.cell?, World.frozen?, h]
/-- The value of a record. -/
abbrev recV (r : Rec) : Value := .agg #[.int .u64 (r.seq : Int), .string (B r.key), .string (B r.val), .bool r.gone]
set_option maxHeartbeats 3200000 in
theorem seg_Get.calls (w : World) (A : Nat → Prop) (d : Nat) (st : Dsk) {N : Nat} (h : DskAt w A d st) (hs : st.Sm N) (n : Int) (hn : -9223372036854775808 ≤ n ∧ n ≤ 9223372036854775807) (hL : LaidW w) (x : Ent) :
    Calls Tryz.prog 25 #[.pointer (some ⟨d, 0, none⟩), .int .i64 n, .agg #[.string (B x.key), .int .i64 x.off, .int .i64 x.len, .int .u64 (x.seq : Int), .bool x.gone]] w fun e w' =>
      e = .returned (.tuple #[recV (segGet st n x).1, .int .i64 (segGet st n x).2]) ∧ Below w.heap.size w w' := by
  have H := Aside0.mk h
  have HL := Aside0.mk hL
  have HS := Aside0.mk hs
  clear h hL hs
  obtain ⟨X, hX⟩ : ∃ X, segGet st n x = X := ⟨_, rfl⟩
  rw [hX]
  have HX := Aside0.mk hX
  clear hX
  have HEV := Aside0.mk (fun b hb => Ev.rounds (ev_hAt b x hb))
  obtain ⟨kb, hkb⟩ : ∃ kb, B x.key = kb := ⟨_, rfl⟩
  rw [hkb] at HEV ⊢
  clear hkb
  go_enter Tryz.func25, Tryz.ntmps25
  go_wp2_with fail
  obtain ⟨w1, hw1⟩ : ∃ w1, (w.alloc (.cells #[.string kb, .int .i64 x.off, .int .i64 x.len, .int .u64 (x.seq : Int), .bool x.gone] 52)).alloc (.cells #[.int .u64 0, .string ⟨#[]⟩, .string ⟨#[]⟩, .bool false] 50) = w1 := ⟨_, rfl⟩
  have XP := Aside0.mk (show w1.heap[w.heap.size]? = some (.cells #[.string kb, .int .i64 x.off, .int .i64 x.len, .int .u64 (x.seq : Int), .bool x.gone] 52) by rw [← hw1]; exact blk_alloc (blk_new _ _) _)
  have XR := Aside0.mk (show w1.heap[w.heap.size + 1]? = some (.cells #[.int .u64 0, .string ⟨#[]⟩, .string ⟨#[]⟩, .bool false] 50) by
    rw [← hw1]
    have := blk_new (w.alloc (.cells #[.string kb, .int .i64 x.off, .int .i64 x.len, .int .u64 (x.seq : Int), .bool x.gone] 52)) (.cells #[.int .u64 0, .string ⟨#[]⟩, .string ⟨#[]⟩, .bool false] 50)
    simpa using this)
  have B1 := Aside0.mk (show Below w.heap.size w w1 by rw [← hw1]; exact ((Below.refl _ w).alloc (Nat.le_refl _) _).alloc (by simp) _)
  rw [hw1]
  clear hw1
  obtain ⟨gp, hgp⟩ : ∃ g, w.heap.size = g := ⟨_, rfl⟩
  obtain ⟨gq, hgq⟩ : ∃ g, gp + 1 = g := ⟨_, rfl⟩
  have HG := Aside0.mk (show w.heap.size ≤ gq by omega)
  rw [hgp, hgq] at XR
  rw [hgp] at XP
  rw [hgp, hgq]
  clear hgp hgq
  refine (seg_right.calls n _).mono ?_
  rintro e w0 ⟨rfl, rfl⟩
  cases hr : rightN n with
  | false =>
    have e1 := Aside0.mk (show segGet st n x = (rec0, 1) by simp [segGet, hr])
    replace e1 := Aside0.mk (e1.out.symm.trans HX.out)
    obtain ⟨c0, c1, c2, c3, fr⟩ := cells4f XR.out
    go_wp2_with fail
    refine bodyPost_ret (v := .tuple #[recV rec0, .int .i64 1]) (results_row_tmp (q := 7) rfl _ _ gq _ _ (0, 0) _ rfl (rec_put XR.out _ _ _ _) Tryz.underlying50 rfl (by kernel_rfl)) rfl ?_
    rw [← e1.out]
    exact ⟨rfl, below_put4 B1.out HG.out _ _ _ _⟩
  | true =>
    have e1 := Aside0.mk (show segGet st n x = if (st.bytes (sgN n)).2 = 0 then atE (L (st.bytes (sgN n)).1) x else (rec0, (st.bytes (sgN n)).2) by simp [segGet, hr])
    replace e1 := Aside0.mk (e1.out.symm.trans HX.out)
    go_wp2_with fail
    refine (seg_Name.calls n hn _ (HL.out.below B1.out)).mono ?_
    rintro e w2 ⟨rfl, b2⟩
    have XP2 := Aside0.mk (blk_below XP.out b2)
    have XR2 := Aside0.mk (blk_below XR.out b2)
    have B2 := Aside0.mk (B1.out.trans (b2.mono B1.out.size))
    clear b2 XP XR B1
    go_wp2_with fail
    refine (seg_bytes.calls w2 A d st (H.out.below B2.out) (sgN n) (sgN_size n) HS.out).mono ?_
    rintro e w3 ⟨rfl, b3⟩
    have XP3 := Aside0.mk (blk_below XP2.out b3)
    have XR3 := Aside0.mk (blk_below XR2.out b3)
    have B3 := Aside0.mk (B2.out.trans (b3.mono B2.out.size))
    clear b3 XP2 XR2 B2
    obtain ⟨p0, p1, p2, p3, p4, fp⟩ := cells5f XP3.out
    obtain ⟨c0, c1, c2, c3, fr⟩ := cells4f XR3.out
    rcases bytes_cases HS.out (sgN n) with ⟨b, hb, hz⟩ | hb
    · rw [hb, if_pos rfl] at e1
      rw [hb]
      obtain ⟨q, hq⟩ := HEV.out b (Nat.le_trans hz HS.out.small)
      unfold AT at hq
      have HQ := Aside0.mk hq
      generalize atE (L b) x = rr at HQ e1
      clear hq hb hz HEV
      go_wp2_with fail
      refine (hint_At.calls q b _ _ _ _ _ _ _ _ _ _ w3 HQ.out).mono ?_
      rintro e w4 ⟨rfl, b4⟩
      have XR4 := Aside0.mk (blk_below XR3.out b4)
      have B4 := Aside0.mk (B3.out.trans (b4.mono B3.out.size))
      clear b4 c0 c1 c2 c3 fr p0 p1 p2 p3 p4 fp
      obtain ⟨c0, c1, c2, c3, fr⟩ := cells4f XR4.out
      go_wp2_with fail
      refine bodyPost_ret (v := .tuple #[recV rr.1, .int .i64 rr.2]) (results_row_tmp (q := 7) rfl _ _ gq _ _ (0, 0) _ rfl (rec_put XR4.out _ _ _ _) Tryz.underlying50 rfl (by kernel_rfl)) rfl ?_
      rw [← e1.out]
      exact ⟨rfl, below_put4 B4.out HG.out _ _ _ _⟩
    · rw [hb, if_neg (by decide)] at e1
      rw [hb]
      clear hb
      go_wp2_with fail
      refine bodyPost_ret (v := .tuple #[recV rec0, .int .i64 5]) (results_row_tmp (q := 7) rfl _ _ gq _ _ (0, 0) _ rfl (rec_put XR3.out _ _ _ _) Tryz.underlying50 rfl (by kernel_rfl)) rfl ?_
      rw [← e1.out]
      exact ⟨rfl, below_put4 B3.out HG.out _ _ _ _⟩
set_option maxHeartbeats 1600000 in
theorem seg_Told.calls (w : World) (A : Nat → Prop) (d : Nat) (st : Dsk) {N : Nat} (h : DskAt w A d st) (hs : st.Sm N) (n : Int) (hn : -9223372036854775808 ≤ n ∧ n ≤ 9223372036854775807) (hL : LaidW w) :
    Calls Tryz.prog 34 #[.pointer (some ⟨d, 0, none⟩), .int .i64 n] w fun e w' => ∃ v, e = .returned (.tuple #[v, .int .i64 (segTold st n).2]) ∧ Kd.R kE 52 w' w.heap.size (fun _ => True) v ((segTold st n).1.map ES) ∧ Below w.heap.size w w' := by
  have H := Aside0.mk h
  have HL := Aside0.mk hL
  have HS := Aside0.mk hs
  clear h hL hs
  obtain ⟨X, hX⟩ : ∃ X, segTold st n = X := ⟨_, rfl⟩
  rw [hX]
  have HX := Aside0.mk hX
  clear hX
  go_enter Tryz.func34, Tryz.ntmps34
  go_wp2_with fail
  refine (seg_right.calls n _).mono ?_
  rintro e w0 ⟨rfl, rfl⟩
  cases hr : rightN n with
  | false =>
    have e1 := Aside0.mk (show segTold st n = ([], 1) by simp [segTold, hr])
    replace e1 := Aside0.mk (e1.out.symm.trans HX.out)
    go_wp2_with fail
    go_ret2
    rw [← e1.out]
    exact ⟨_, rfl, Kd.R_nil _ _ _ _ _, Below.refl _ _⟩
  | true =>
    have e1 := Aside0.mk (show segTold st n = if (st.bytes (sgH n)).2 = 0 then readE (L (st.bytes (sgH n)).1) else ([], (st.bytes (sgH n)).2) by simp [segTold, hr])
    go_wp2_with fail
    refine (seg_Hints.calls n hn _ HL.out).mono ?_
    rintro e w1 ⟨rfl, b1⟩
    have B1 := Aside0.mk b1
    clear b1
    go_wp2_with fail
    refine (seg_bytes.calls w1 A d st (H.out.below B1.out) (sgH n) (sgH_size n) HS.out).mono ?_
    rintro e w2 ⟨rfl, b2⟩
    have B2 := Aside0.mk (B1.out.trans (b2.mono B1.out.size))
    clear b2
    replace e1 := Aside0.mk (e1.out.symm.trans HX.out)
    rcases bytes_cases HS.out (sgH n) with ⟨b, hb, hz⟩ | hb
    · rw [hb, if_pos rfl] at e1
      rw [hb]
      obtain ⟨q, hq⟩ := Ev.rounds (ev_hRead b (by have := HS.out.small; omega))
      unfold HR at hq
      have HQ := Aside0.mk hq
      generalize readE (L b) = rr at HQ e1 ⊢
      clear hq hb hz
      go_wp2_with fail
      refine (hint_Read.calls q b _ _ w2 HQ.out).mono ?_
      rintro e w3 ⟨v, rfl, r3, b3⟩
      have B3 := Aside0.mk (B2.out.trans (b3.mono B2.out.size))
      have R3 := Aside0.mk (Kd.R_lower r3 B2.out.size)
      clear b3 r3
      go_wp2_with fail
      go_ret2
      rw [← e1.out]
      exact ⟨_, rfl, R3.out, B3.out⟩
    · rw [hb, if_neg (by decide)] at e1
      rw [hb]
      clear hb
      go_wp2_with fail
      go_ret2
      rw [← e1.out]
      exact ⟨_, rfl, Kd.R_nil _ _ _ _ _, B2.out⟩
set_option maxHeartbeats 3200000 in
theorem seg_Load.calls (w : World) (A : Nat → Prop) (d : Nat) (st : Dsk) {N : Nat} (h : DskAt w A d st) (hA : ∀ k, A k → k < w.heap.size) (hs : st.Sm N) (n : Int) (hn : -9223372036854775808 ≤ n ∧ n ≤ 9223372036854775807) (hL : LaidW w) :
    Calls Tryz.prog 20 #[.pointer (some ⟨d, 0, none⟩), .int .i64 n] w (EntPost w A d (segLoad st n)) := by
  have H := Aside0.mk h
  have HL := Aside0.mk hL
  have HS := Aside0.mk hs
  have HA := Aside0.mk hA
  clear h hL hs hA
  unfold EntPost
  obtain ⟨X, hX⟩ : ∃ X, segLoad st n = X := ⟨_, rfl⟩
  rw [hX]
  have HX := Aside0.mk hX
  clear hX
  go_enter Tryz.func20, Tryz.ntmps20
  go_wp2_with fail
  refine (seg_right.calls n _).mono ?_
  rintro e w0 ⟨rfl, rfl⟩
  cases hr : rightN n with
  | false =>
    have e1 := Aside0.mk (show segLoad st n = (st, [], 1) by simp [segLoad, hr])
    replace e1 := Aside0.mk (e1.out.symm.trans HX.out)
    go_wp2_with fail
    go_ret2
    rw [← e1.out]
    exact ent_still H.out HA.out (Below.refl _ _) (Kd.R_nil _ _ _ _ (fun _ => True))
  | true =>
    have e1 := Aside0.mk (show segLoad st n = if (st.bytes (sgN n)).2 = 0 then
      if (ofS (L (st.bytes (sgN n)).1)).2 < (st.bytes (sgN n)).1.size then
        if (st.cut (sgN n) (ofS (L (st.bytes (sgN n)).1)).2).2 = 0 then ((st.cut (sgN n) (ofS (L (st.bytes (sgN n)).1)).2).1, (ofS (L (st.bytes (sgN n)).1)).1, 0)
        else ((st.cut (sgN n) (ofS (L (st.bytes (sgN n)).1)).2).1, [], (st.cut (sgN n) (ofS (L (st.bytes (sgN n)).1)).2).2)
      else (st, (ofS (L (st.bytes (sgN n)).1)).1, 0)
    else (st, [], (st.bytes (sgN n)).2) by simp [segLoad, hr])
    go_wp2_with fail
    refine (seg_Name.calls n hn _ HL.out).mono ?_
    rintro e w1 ⟨rfl, b1⟩
    have B1 := Aside0.mk b1
    clear b1
    go_wp2_with fail
    refine (seg_bytes.calls w1 A d st (H.out.below B1.out) (sgN n) (sgN_size n) HS.out).mono ?_
    rintro e w2 ⟨rfl, b2⟩
    have B2 := Aside0.mk (B1.out.trans (b2.mono B1.out.size))
    clear b2
    replace e1 := Aside0.mk (e1.out.symm.trans HX.out)
    rcases bytes_cases HS.out (sgN n) with ⟨b, hb, hz⟩ | hb
    · rw [hb, if_pos rfl] at e1
      rw [hb]
      obtain ⟨q, hq⟩ := Ev.rounds (ev_hOf b (Nat.le_trans hz HS.out.small))
      have HQ := Aside0.mk hq
      generalize ofS (L b) = oo at HQ e1 ⊢
      clear hq hb
      go_wp2_with fail
      refine (hint_Of.calls q b _ _ w2 HQ.out).mono ?_
      rintro e w3 ⟨v, rfl, r3, b3⟩
      have H3 := Aside0.mk ((H.out.below B2.out).below b3)
      have B3 := Aside0.mk (B2.out.trans (b3.mono B2.out.size))
      have R3 := Aside0.mk (Kd.R_bound (Kd.R_lower r3 B2.out.size))
      clear b3 r3 HQ
      by_cases hlt : oo.2 < b.size
      · rw [if_pos hlt] at e1
        have dl : decide ((oo.2 : Int) < (b.size : Int)) = true := decide_eq_true (by omega)
        go_wp2_with fail
        refine (seg_Name.calls n hn _ (HL.out.below B3.out)).mono ?_
        rintro e w4 ⟨rfl, b4⟩
        have H4 := Aside0.mk (H3.out.below b4)
        have B4 := Aside0.mk (B3.out.trans (b4.mono B3.out.size))
        have R4 := Aside0.mk (Kd.R_below R3.out b4)
        have Z4 := Aside0.mk b4.size
        clear b4
        go_wp2_with fail
        refine (disk_Cut.calls w4 A d st H4.out (sgN n) (sgN_size n) (oo.2 : Int) (fun g hg => by have := HS.out.files _ g hg; have := HS.out.small; omega)).mono ?_
        rintro e w5 ⟨rfl, h5, f5⟩
        have hA5 := HA.out
        have H5 := Aside0.mk h5.bound
        have F5 := Aside0.mk ((Frm.of_new (S := A) B4.out).andThen f5 (fun i hi => Or.inl hi))
        have R5 := Aside0.mk (Kd.R_step R4.out (fun k hk hlt => f5.block k hlt (fun ha => by have := HA.out k ha; have := hk.2.1; omega)))
        generalize st.cut (sgN n) (oo.2 : Int) = cc at H5 e1 ⊢
        obtain ⟨c1, c2⟩ := cc
        clear h5 f5 dl
        by_cases hc : c2 = 0
        · subst hc
          rw [if_pos rfl] at e1
          go_wp2_with fail
          go_ret2
          rw [← e1.out]
          refine ⟨v, _, rfl, H5.out, fun k hk => ⟨hk.1.imp id (fun hle => Nat.le_trans B4.out.size hle), hk.2⟩, Kd.R_mono R5.out (fun k hk => ?_), F5.out⟩
          rintro ⟨ha | ha, hb⟩
          · have := HA.out k ha; have := hk.2.1; omega
          · have := hk.2.2.1; have := Z4.out; omega
        · rw [if_neg hc] at e1
          have hc' : (c2 == 0) = false := beq_eq_false_iff_ne.2 hc
          go_wp2_with fail
          go_ret2
          rw [← e1.out]
          exact ⟨_, _, rfl, H5.out, fun k hk => ⟨hk.1.imp id (fun hle => Nat.le_trans B4.out.size hle), hk.2⟩, Kd.R_nil _ _ _ _ _, F5.out⟩
      · rw [if_neg hlt] at e1
        have dl : decide ((oo.2 : Int) < (b.size : Int)) = false := decide_eq_false (by omega)
        go_wp2_with fail
        go_ret2
        rw [← e1.out]
        exact ent_still H.out HA.out B3.out R3.out
    · rw [hb, if_neg (by decide)] at e1
      rw [hb]
      clear hb
      go_wp2_with fail
      go_ret2
      rw [← e1.out]
      exact ent_still H.out HA.out B2.out (Kd.R_nil _ _ _ _ (fun _ => True))
section
variable {N : Nat} {st : Dsk}
theorem Dsk.Sm.of (h : st.Sm N) {M : Nat} (hM : M ≤ 1000000) {st' : Dsk} (hr : st'.room = st.room) (hf : ∀ k f, look st'.m k = some f → f.b.size ≤ M) : st'.Sm M := ⟨hM, by rw [hr]; exact h.room, hf⟩
theorem Dsk.Sm.burn (h : st.Sm N) : st.burn.1.Sm N := h.of h.small (burn_room st) (by rw [burn_m]; exact h.files)
theorem Dsk.Sm.change (h : st.Sm N) (name : ByteArray) (may : Bool) (upd : Dsk → DFile → Dsk) (hu : ∀ s f, s.Sm N → look s.m name = some f → (upd s f).Sm N) : (st.change name may upd).1.Sm N := by
  unfold Dsk.change
  cases hl : look st.m name with
  | none => exact h
  | some f =>
    cases may with
    | false => exact h
    | true =>
      show (if st.burn.2 = 0 then (upd st.burn.1 f, (0 : Int)) else (st.burn.1, st.burn.2)).1.Sm N
      split
      · exact hu _ f h.burn (by rw [burn_m]; exact hl)
      · exact h.burn
theorem look_put_le {m : List (ByteArray × DFile)} {name : ByteArray} {f : DFile} {M : Nat} (hf : f.b.size ≤ M) (hm : ∀ k g, look m k = some g → g.b.size ≤ M) : ∀ k g, look (put m name f) k = some g → g.b.size ≤ M := by
  intro k g hg
  by_cases hk : name = k
  · subst hk
    rw [look_put_same] at hg
    cases hg
    exact hf
  · rw [look_put_other m hk] at hg
    exact hm k g hg
theorem Dsk.Sm.remove (h : st.Sm N) (name : ByteArray) : (st.remove name).1.Sm N :=
  h.change name true _ fun s f hs hl => hs.of hs.small rfl fun k g hg => by
    by_cases hk : name = k
    · subst hk
      rw [show look (updRemove name s f).m name = none from look_del_same _ _] at hg
      cases hg
    · exact hs.files k g ((look_del_other s.m hk).symm.trans hg)
theorem Dsk.Sm.sync (h : st.Sm N) (name : ByteArray) : (st.sync name).1.Sm N :=
  h.change name true _ fun s f hs hl => hs.of hs.small rfl (look_put_le (hs.files name f hl) hs.files)
theorem Dsk.Sm.cut (h : st.Sm N) (name : ByteArray) (n : Int) : (st.cut name n).1.Sm N :=
  h.change name _ _ fun s f hs hl => hs.of hs.small rfl (look_put_le (by
    have := hs.files name f hl
    show (f.b.extract 0 n.toNat).size ≤ N
    rw [ByteArray.size_extract]
    omega) hs.files)
theorem Dsk.Sm.append (h : st.Sm N) (name b : ByteArray) {M : Nat} (hM : M ≤ 1000000) (hb : N + b.size ≤ M) : (st.append name b).1.Sm M := by
  have hw : st.burn.1.Sm M := h.burn.of hM rfl (fun k f hk => by have := h.burn.files k f hk; omega)
  unfold Dsk.append
  split
  · exact h.of hM rfl (fun k f hk => by have := h.files k f hk; omega)
  · split
    · exact hw
    · split
      · exact hw
      · refine hw.of hM rfl (look_put_le ?_ hw.files)
        show ((st.burn.1.fileOf name).b ++ b).size ≤ M
        have := h.burn.fileOf name
        rw [ByteArray.size_append]
        omega
end
end Go.Proofs.YthndpknocofioaaGreatDoor.Thw
/-! ## Layer 8 (segment): Hint, Seal, Index. -/
namespace Go.Proofs.YthndpknocofioaaGreatDoor.Thw
open Go Go.RowKit Go.Maps Go.Proofs.YthndpknocofioaaGreatDoor.Print Go.Proofs.YthndpknocofioaaGreatDoorW.PrintWords Go.Proofs.YthndpknocofioaaGreatDoorW.PrintLast Go.Proofs.YthndpknocofioaaGreatDoorW.PrintMore
set_option linter.unusedVariables false
set_option linter.unusedSimpArgs false
theorem DiskPost.of {w w1 w2 : World} {A T : Nat → Prop} {d : Nat} {x : Dsk × Int} (hA : ∀ k, A k → k < w.heap.size) (f1 : Frm A w w1) (hT : ∀ k, T k → gr A w k ∧ k < w1.heap.size) (h2 : DskAt w2 (gr T w1) d x.1) (f2 : Frm T w1 w2) :
    DskAt w2 (fun k => gr A w k ∧ k < w2.heap.size) d x.1 ∧ Frm A w w2 :=
  ⟨h2.mono fun k hk hg => ⟨hg.elim (fun ht => (hT k ht).1) (fun hle => Or.inr (Nat.le_trans f1.size hle)), hk⟩, f1.andThen f2 fun i hi => (hT i hi).1⟩
theorem bytesE_codes (l : List Ent) : (∃ b, bytesE l = (b, 0) ∧ b.length ≤ 160014) ∨ bytesE l = ([], 1) := by
  have h0 := bytesE_length l
  by_cases h : (bytesE l).2 = 0
  · obtain ⟨h1, h2, h3⟩ := bytesE_ok h
    exact Or.inl ⟨_, h3, by rw [h3] at h0; simp only at h0; omega⟩
  · refine Or.inr ?_
    unfold bytesE at h ⊢
    split
    · rename_i h1
      rw [if_pos h1] at h
      split
      · rename_i h2
        rw [if_pos h2] at h
        exact absurd rfl h
      · rfl
    · rfl
theorem size_code (st : Dsk) (k : ByteArray) : (st.size k).2 = 0 ∨ (st.size k).2 = 5 := by
  unfold Dsk.size
  split
  · exact Or.inr rfl
  · exact Or.inl rfl
theorem ofS_len (b : Bs) : (ofS b).1.length ≤ 16 * b.length := by
  unfold ofS
  rw [ofL_length]
  exact flat_le_scan b
theorem segLoad_Sm {N : Nat} {st : Dsk} (h : st.Sm N) (n : Int) : (segLoad st n).1.Sm N := by
  unfold segLoad
  split
  · split
    · split
      · split
        · exact h.cut _ _
        · exact h.cut _ _
      · exact h
    · exact h
  · exact h
theorem segLoad_len {N : Nat} {st : Dsk} (h : st.Sm N) (n : Int) : (segLoad st n).2.1.length ≤ 1000000000 := by
  have hb : (ofS (L (st.bytes (sgN n)).1)).1.length ≤ 1000000000 := by
    have h1 := ofS_len (L (st.bytes (sgN n)).1)
    rw [L_length] at h1
    have h2 := h.small
    rcases bytes_cases h (sgN n) with ⟨b, hb, hz⟩ | hb
    · rw [hb] at h1 ⊢; simp only at h1 ⊢; omega
    · rw [hb] at h1 ⊢
      have : (⟨#[]⟩ : ByteArray).size = 0 := rfl
      simp only at h1 ⊢; omega
  unfold segLoad
  split
  · split
    · split
      · split
        · exact hb
        · simp
      · exact hb
    · simp
  · simp
set_option maxHeartbeats 6400000 in
set_option maxRecDepth 100000 in
theorem seg_Hint.calls (w : World) (A : Nat → Prop) (d : Nat) (st : Dsk) {N : Nat} (h : DskAt w A d st) (hA : ∀ k, A k → k < w.heap.size) (hs : st.Sm N) (n : Int) (hn : -9223372036854775808 ≤ n ∧ n ≤ 9223372036854775807) (hL : LaidW w)
    (A0 : Option Addr) (c0 : Nat) (l : List Ent) (es : List SE) (hes : es = l.map ES) (hC : Kd.C kE w A0 es.length es) (hc0 : es.length ≤ c0) (hll : l.length ≤ 1000000000) (hAW : ∀ W, Frm A w W → LaidW W) :
    Calls Tryz.prog 32 #[.pointer (some ⟨d, 0, none⟩), .int .i64 n, .slice A0 es.length c0] w (DiskPost w A d (segHint st n l)) := by
  have H := Aside0.mk h
  have HL := Aside0.mk hL
  have HLW := Aside0.mk hAW
  have HS := Aside0.mk hs
  have HA := Aside0.mk hA
  have HC := Aside0.mk hC
  have HC0 := Aside0.mk hc0
  have HEV := Aside0.mk (Ev.rounds (ev_hBytes l hll))
  rw [← hes] at HEV
  have HES := Aside0.mk hes
  clear h hL hs hA hC hc0 hAW hes
  unfold DiskPost
  obtain ⟨X, hX⟩ : ∃ X, segHint st n l = X := ⟨_, rfl⟩
  rw [hX]
  have HX := Aside0.mk hX
  clear hX
  go_enter Tryz.func32, Tryz.ntmps32
  go_wp2_with fail
  refine (seg_right.calls n _).mono ?_
  rintro e w0 ⟨rfl, rfl⟩
  cases hr : rightN n with
  | false =>
    have e1 := Aside0.mk (show segHint st n l = (st, 1) by simp [segHint, hr])
    replace e1 := Aside0.mk (e1.out.symm.trans HX.out)
    go_wp2_with fail
    go_ret
    rw [← e1.out]
    exact ⟨rfl, H.out.mono (fun k hk ha => ⟨Or.inl ha, hk⟩), Frm.refl _ _⟩
  | true =>
    have e1 := Aside0.mk (show segHint st n l = if (bytesE l).2 = 0 then
      if (st.size (sgH n)).2 = 0 then
        if (st.remove (sgH n)).2 = 0 then segLay (st.remove (sgH n)).1 n (B (bytesE l).1) else st.remove (sgH n)
      else segLay st n (B (bytesE l).1)
    else (st, (bytesE l).2) by simp [segHint, hr])
    go_wp2_with fail
    obtain ⟨q, hq⟩ := HEV.out
    have HQ := Aside0.mk hq
    clear hq HEV
    refine (hint_Bytes.calls q A0 c0 es _ _ _ HC.out HC0.out HQ.out).mono ?_
    rintro e w1 ⟨rfl, b1⟩
    have B1 := Aside0.mk b1
    replace e1 := Aside0.mk (e1.out.symm.trans HX.out)
    clear b1 HQ
    rcases bytesE_codes l with ⟨bb, hb, hbz⟩ | hb
    · rw [hb, if_pos rfl] at e1
      rw [hb]
      have HBZ := Aside0.mk (show (B bb).size ≤ 160014 by rw [B_size]; exact hbz)
      clear hb hbz
      simp only
      generalize B bb = b at HBZ e1 ⊢
      go_wp2_with fail
      refine (seg_Hints.calls n hn _ (HL.out.below B1.out)).mono ?_
      rintro e w2 ⟨rfl, b2⟩
      have B2 := Aside0.mk (B1.out.trans (b2.mono B1.out.size))
      clear b2
      go_wp2_with fail
      refine (disk_Size.calls w2 A d st (H.out.below B2.out) (sgH n) (sgH_size n)).mono ?_
      rintro e w3 ⟨rfl, b3⟩
      have B3 := Aside0.mk (B2.out.trans (b3.mono B2.out.size))
      clear b3
      have HZC := Aside0.mk (size_code st (sgH n))
      generalize st.size (sgH n) = z at HZC e1 ⊢
      obtain ⟨z1, z2⟩ := z
      rcases HZC.out with h0 | h5
      · obtain rfl : z2 = 0 := h0
        rw [if_pos rfl] at e1
        go_wp2_with fail
        refine (seg_Hints.calls n hn _ (HL.out.below B3.out)).mono ?_
        rintro e w4 ⟨rfl, b4⟩
        have B4 := Aside0.mk (B3.out.trans (b4.mono B3.out.size))
        clear b4
        go_wp2_with fail
        refine (disk_Remove.calls w4 A d st (H.out.below B4.out) (sgH n) (sgH_size n)).mono ?_
        rintro e w5 ⟨rfl, h5, f5⟩
        have F5 := Aside0.mk ((Frm.of_new (S := A) B4.out).andThen f5 (fun i hi => Or.inl hi))
        have H5 := Aside0.mk (show DskAt w5 (fun k => gr A w k ∧ k < w5.heap.size) d (st.remove (sgH n)).1 from h5.mono (fun k hk hg => ⟨hg.imp id (fun hle => Nat.le_trans B4.out.size hle), hk⟩))
        have S5 := Aside0.mk (HS.out.remove (sgH n))
        generalize st.remove (sgH n) = rm at H5 S5 e1 ⊢
        obtain ⟨rm1, rm2⟩ := rm
        clear h5 f5 B1 B2 B3 B4 HC
        by_cases hz : rm2 = 0
        · subst hz
          rw [if_pos rfl] at e1
          have HL5 := Aside0.mk (HLW.out _ F5.out)
          go_wp2_with fail
          refine (seg_Hints.calls n hn _ HL5.out).mono ?_
          rintro e w6 ⟨rfl, b6⟩
          have B6 := Aside0.mk b6
          clear b6
          go_wp2_with fail
          refine (disk_Append.calls w6 (fun k => gr A w k ∧ k < w5.heap.size) d rm1 (H5.out.below B6.out) (sgH n) (sgH_size n) b (by have := S5.out.room; omega) (by have := S5.out.fileOf (sgH n); have := S5.out.small; have := HBZ.out; omega)).mono ?_
          rintro e w7 ⟨rfl, h7, f7⟩
          have F7 := Aside0.mk ((Frm.of_new (S := fun k => gr A w k ∧ k < w5.heap.size) B6.out).andThen f7 (fun i hi => Or.inl hi))
          have H7 := Aside0.mk (show DskAt w7 (fun k => gr A w k ∧ k < w7.heap.size) d (Dsk.append rm1 (sgH n) b).1 from h7.mono (fun k hk hg => ⟨hg.elim (fun x => x.1) (fun hle => Or.inr (Nat.le_trans F5.out.size (Nat.le_trans B6.out.size hle))), hk⟩))
          have G7 := Aside0.mk (F5.out.andThen F7.out (fun i hi => hi.1))
          clear h7 f7
          have eL : segLay rm1 n b = if (Dsk.append rm1 (sgH n) b).2 = 0 then (Dsk.append rm1 (sgH n) b).1.sync (sgH n) else Dsk.append rm1 (sgH n) b := rfl
          rw [eL] at e1
          clear eL
          generalize Dsk.append rm1 (sgH n) b = ap at H7 e1 ⊢
          obtain ⟨ap1, ap2⟩ := ap
          by_cases ha : ap2 = 0
          · subst ha
            rw [if_pos rfl] at e1
            have HL7 := Aside0.mk (HLW.out _ G7.out)
            go_wp2_with fail
            refine (seg_Hints.calls n hn _ HL7.out).mono ?_
            rintro e w8 ⟨rfl, b8⟩
            have B8 := Aside0.mk b8
            clear b8
            go_wp2_with fail
            refine (disk_Sync.calls w8 _ d ap1 (H7.out.below B8.out) (sgH n) (sgH_size n)).mono ?_
            rintro e w9 ⟨rfl, h9, f9⟩
            have H9 := Aside0.mk h9
            have F9 := Aside0.mk f9
            clear h9 f9
            go_wp2_with fail
            go_ret
            rw [← e1.out]
            refine ⟨rfl, H9.out.mono (fun k hk hg => ⟨hg.elim (fun x => x.1) (fun hle => Or.inr (Nat.le_trans G7.out.size (Nat.le_trans B8.out.size hle))), hk⟩), ?_⟩
            exact (G7.out.andThen (Frm.of_new (S := fun k => gr A w k ∧ k < w7.heap.size) B8.out) (fun i hi => hi.1)).andThen F9.out (fun i hi => hi.1)
          · rw [if_neg ha] at e1
            have ha' : (ap2 == 0) = false := beq_eq_false_iff_ne.2 ha
            go_wp2_with fail
            go_ret
            rw [← e1.out]
            exact ⟨rfl, H7.out, G7.out⟩
        · rw [if_neg hz] at e1
          have hz' : (rm2 == 0) = false := beq_eq_false_iff_ne.2 hz
          go_wp2_with fail
          go_ret
          rw [← e1.out]
          exact ⟨rfl, H5.out, F5.out⟩
      · obtain rfl : z2 = 5 := h5
        rw [if_neg (by simp)] at e1
        have F5 := Aside0.mk (Frm.of_new (S := A) B3.out)
        have H5 := Aside0.mk (show DskAt w3 (fun k => gr A w k ∧ k < w3.heap.size) d st from (H.out.below B3.out).mono (fun k hk ha => ⟨Or.inl ha, hk⟩))
        have S5 := Aside0.mk HS.out
        have HL5 := Aside0.mk (HLW.out _ F5.out)
        clear B1 B2 HC
        go_wp2_with fail
        refine (seg_Hints.calls n hn _ HL5.out).mono ?_
        rintro e w6 ⟨rfl, b6⟩
        have B6 := Aside0.mk b6
        clear b6
        go_wp2_with fail
        refine (disk_Append.calls w6 (fun k => gr A w k ∧ k < w3.heap.size) d st (H5.out.below B6.out) (sgH n) (sgH_size n) b (by have := S5.out.room; omega) (by have := S5.out.fileOf (sgH n); have := S5.out.small; have := HBZ.out; omega)).mono ?_
        rintro e w7 ⟨rfl, h7, f7⟩
        have F7 := Aside0.mk ((Frm.of_new (S := fun k => gr A w k ∧ k < w3.heap.size) B6.out).andThen f7 (fun i hi => Or.inl hi))
        have H7 := Aside0.mk (show DskAt w7 (fun k => gr A w k ∧ k < w7.heap.size) d (st.append (sgH n) b).1 from h7.mono (fun k hk hg => ⟨hg.elim (fun x => x.1) (fun hle => Or.inr (Nat.le_trans F5.out.size (Nat.le_trans B6.out.size hle))), hk⟩))
        have G7 := Aside0.mk (F5.out.andThen F7.out (fun i hi => hi.1))
        clear h7 f7
        have eL : segLay st n b = if (st.append (sgH n) b).2 = 0 then (st.append (sgH n) b).1.sync (sgH n) else st.append (sgH n) b := rfl
        rw [eL] at e1
        clear eL
        generalize st.append (sgH n) b = ap at H7 e1 ⊢
        obtain ⟨ap1, ap2⟩ := ap
        by_cases ha : ap2 = 0
        · subst ha
          rw [if_pos rfl] at e1
          have HL7 := Aside0.mk (HLW.out _ G7.out)
          go_wp2_with fail
          refine (seg_Hints.calls n hn _ HL7.out).mono ?_
          rintro e w8 ⟨rfl, b8⟩
          have B8 := Aside0.mk b8
          clear b8
          go_wp2_with fail
          refine (disk_Sync.calls w8 _ d ap1 (H7.out.below B8.out) (sgH n) (sgH_size n)).mono ?_
          rintro e w9 ⟨rfl, h9, f9⟩
          have H9 := Aside0.mk h9
          have F9 := Aside0.mk f9
          clear h9 f9
          go_wp2_with fail
          go_ret
          rw [← e1.out]
          refine ⟨rfl, H9.out.mono (fun k hk hg => ⟨hg.elim (fun x => x.1) (fun hle => Or.inr (Nat.le_trans G7.out.size (Nat.le_trans B8.out.size hle))), hk⟩), ?_⟩
          exact (G7.out.andThen (Frm.of_new (S := fun k => gr A w k ∧ k < w7.heap.size) B8.out) (fun i hi => hi.1)).andThen F9.out (fun i hi => hi.1)
        · rw [if_neg ha] at e1
          have ha' : (ap2 == 0) = false := beq_eq_false_iff_ne.2 ha
          go_wp2_with fail
          go_ret
          rw [← e1.out]
          exact ⟨rfl, H7.out, G7.out⟩
    · rw [hb, if_neg (by decide)] at e1
      rw [hb]
      clear hb
      go_wp2_with fail
      go_ret
      rw [← e1.out]
      exact ⟨rfl, (H.out.below B1.out).mono (fun k hk ha => ⟨Or.inl ha, hk⟩), Frm.of_new B1.out⟩
set_option maxHeartbeats 3200000 in
set_option maxRecDepth 100000 in
theorem seg_Seal.calls (w : World) (A : Nat → Prop) (d : Nat) (st : Dsk) {N : Nat} (h : DskAt w A d st) (hA : ∀ k, A k → k < w.heap.size) (hs : st.Sm N) (n : Int) (hn : -9223372036854775808 ≤ n ∧ n ≤ 9223372036854775807) (hAW : ∀ W, Frm A w W → LaidW W) :
    Calls Tryz.prog 17 #[.pointer (some ⟨d, 0, none⟩), .int .i64 n] w (DiskPost w A d (segSeal st n)) := by
  have HLO := Aside0.mk (seg_Load.calls w A d st h hA hs n hn (hAW _ (Frm.refl _ _)))
  have HLW := Aside0.mk hAW
  have HS := Aside0.mk (segLoad_Sm hs n)
  have HA := Aside0.mk hA
  have HLN := Aside0.mk (segLoad_len hs n)
  clear h hs hA hAW
  unfold DiskPost
  obtain ⟨X, hX⟩ : ∃ X, segSeal st n = X := ⟨_, rfl⟩
  rw [hX]
  have HX := Aside0.mk hX
  clear hX
  go_enter Tryz.func17, Tryz.ntmps17
  go_wp2_with fail
  refine HLO.out.mono ?_
  rintro e w1 ⟨v, T, rfl, h1, hT, hR, f1⟩
  have e1 := Aside0.mk (show segSeal st n = if (segLoad st n).2.2 = 0 then segHint (segLoad st n).1 n (segLoad st n).2.1 else ((segLoad st n).1, (segLoad st n).2.2) from rfl)
  replace e1 := Aside0.mk (e1.out.symm.trans HX.out)
  generalize segLoad st n = o at h1 hR HS HLN e1 ⊢
  obtain ⟨o1, o2, o3⟩ := o
  have H1 := Aside0.mk h1
  have HT := Aside0.mk hT
  have F1 := Aside0.mk f1
  have HR := Aside0.mk hR
  clear h1 hT f1 HLO
  by_cases h0 : o3 = 0
  · subst h0
    rw [if_pos rfl] at e1
    obtain ⟨A2, cc, rfl, hcc, hC⟩ := Kd.R_reads hR
    have HCC := Aside0.mk hcc
    have HC := Aside0.mk hC
    clear hR hcc hC
    simp only at HS HLN H1 HC HCC HR ⊢
    obtain ⟨es, hes⟩ : ∃ es, es = o2.map ES := ⟨_, rfl⟩
    rw [← hes] at HC HCC ⊢
    have HES := Aside0.mk hes
    clear hes
    go_wp2_with fail
    refine (seg_Hint.calls w1 T d o1 H1.out (fun k hk => (HT.out k hk).2) HS.out n hn (HLW.out _ F1.out) A2 cc o2 es HES.out HC.out HCC.out HLN.out (fun W hW => HLW.out _ (F1.out.andThen hW (fun i hi => (HT.out i hi).1)))).mono ?_
    rintro e w2 ⟨rfl, h2, f2⟩
    have H2 := Aside0.mk h2
    have F2 := Aside0.mk f2
    clear h2 f2
    go_wp2_with fail
    go_ret
    rw [← e1.out]
    exact ⟨rfl, H2.out.mono (fun k hk hg => ⟨hg.1.elim (fun ht => (HT.out k ht).1) (fun hle => Or.inr (Nat.le_trans F1.out.size hle)), hk⟩), F1.out.andThen F2.out (fun i hi => (HT.out i hi).1)⟩
  · rw [if_neg h0] at e1
    have h0' : (o3 == 0) = false := beq_eq_false_iff_ne.2 h0
    clear hR
    go_wp2_with fail
    go_ret
    rw [← e1.out]
    exact ⟨rfl, H1.out.mono (fun k hk ht => HT.out k ht), F1.out⟩
set_option maxHeartbeats 3200000 in
set_option maxRecDepth 100000 in
theorem seg_Index.calls (w : World) (A : Nat → Prop) (d : Nat) (st : Dsk) {N : Nat} (h : DskAt w A d st) (hA : ∀ k, A k → k < w.heap.size) (hs : st.Sm N) (n : Int) (hn : -9223372036854775808 ≤ n ∧ n ≤ 9223372036854775807) (hL : LaidW w) :
    Calls Tryz.prog 19 #[.pointer (some ⟨d, 0, none⟩), .int .i64 n] w (EntPost w A d (segIndex st n)) := by
  have H := Aside0.mk h
  have HS := Aside0.mk hs
  have HA := Aside0.mk hA
  have HL := Aside0.mk hL
  have HTO := Aside0.mk (seg_Told.calls w A d st h hs n hn hL)
  clear h hs hA hL
  unfold EntPost
  obtain ⟨X, hX⟩ : ∃ X, segIndex st n = X := ⟨_, rfl⟩
  rw [hX]
  have HX := Aside0.mk hX
  clear hX
  go_enter Tryz.func19, Tryz.ntmps19
  go_wp2_with fail
  refine HTO.out.mono ?_
  rintro e w1 ⟨v, rfl, hR, b1⟩
  have e1 := Aside0.mk (show segIndex st n = if (segTold st n).2 = 0 ∨ (segTold st n).2 = 1 then (st, segTold st n) else segLoad st n from rfl)
  replace e1 := Aside0.mk (e1.out.symm.trans HX.out)
  generalize segTold st n = o at hR e1 ⊢
  obtain ⟨o2, o3⟩ := o
  have HR := Aside0.mk hR
  have B1 := Aside0.mk b1
  clear hR b1 HTO
  by_cases h0 : o3 = 0
  · subst h0
    rw [if_pos (Or.inl rfl)] at e1
    go_wp2_with fail
    go_ret2
    rw [← e1.out]
    exact ent_still H.out HA.out B1.out HR.out
  have h0' : (o3 == 0) = false := beq_eq_false_iff_ne.2 h0
  by_cases h1 : o3 = 1
  · subst h1
    rw [if_pos (Or.inr rfl)] at e1
    go_wp2_with fail
    go_ret2
    rw [← e1.out]
    exact ent_still H.out HA.out B1.out HR.out
  have h1' : (o3 == 1) = false := beq_eq_false_iff_ne.2 h1
  rw [if_neg (by simp [h0, h1])] at e1
  go_wp2_with fail
  refine (seg_Load.calls w1 A d st (H.out.below B1.out) (fun k hk => Nat.lt_of_lt_of_le (HA.out k hk) B1.out.size) HS.out n hn (HL.out.below B1.out)).mono ?_
  rintro e w2 ⟨v2, T, rfl, h2, hT, hR2, f2⟩
  have H2 := Aside0.mk h2
  have HT := Aside0.mk hT
  have R2 := Aside0.mk hR2
  have F2 := Aside0.mk f2
  clear h2 hT hR2 f2
  go_wp2_with fail
  go_ret2
  rw [← e1.out]
  exact ⟨v2, T, rfl, H2.out, fun k hk => ⟨(HT.out k hk).1.imp id (fun hle => Nat.le_trans B1.out.size hle), (HT.out k hk).2⟩, Kd.R_lower R2.out B1.out.size, (Frm.of_new (S := A) B1.out).andThen F2.out (fun i hi => Or.inl hi)⟩
end Go.Proofs.YthndpknocofioaaGreatDoor.Thw
/-! ## Layer 8 (segment): Write. -/
namespace Go.Proofs.YthndpknocofioaaGreatDoor.Thw
open Go Go.RowKit Go.Maps Go.Proofs.YthndpknocofioaaGreatDoor.Print Go.Proofs.YthndpknocofioaaGreatDoorW.PrintWords Go.Proofs.YthndpknocofioaaGreatDoorW.PrintLast Go.Proofs.YthndpknocofioaaGreatDoorW.PrintMore
set_option linter.unusedVariables false
set_option linter.unusedSimpArgs false
theorem setCell_same {w : World} {g : Nat} {cur : Array Value} {t : TypeId} {fz : Nat × Nat} (h : w.heap[g]? = some (.cells cur t fz)) {o : Nat} {v : Value} (hc : cur[o]? = some v) : w.setCell ⟨g, o, none⟩ v = w := by
  have e : cur.setIfInBounds o v = cur := by
    apply Array.ext_getElem?
    intro i
    by_cases hi : o = i
    · subst hi
      rw [Array.getElem?_setIfInBounds_self_of_lt (Array.getElem?_eq_some_iff.1 hc).1, hc]
    · rw [Array.getElem?_setIfInBounds_ne hi]
  have e2 : (w.setCell ⟨g, o, none⟩ v).heap = w.heap := by
    apply Array.ext_getElem?
    intro i
    simp only [World.setCell, Array.getElem?_modify]
    split
    · rename_i hi
      subst hi
      rw [h]
      simp [e]
    · rfl
  cases w
  simp only [World.setCell] at e2 ⊢
  rw [e2]
def encE (x : SE) : List Value := [.string x.f0, .int .i64 x.f1, .int .i64 x.f2, .int .u64 x.f3, .bool x.f4]
theorem kE_E : ∀ (w : World) (base : Nat) (ok : Nat → Prop) (x : SE) (cs : List Value), kE.M w base ok x cs → cs = encE x := fun _ _ _ _ _ h => k52_openM h
theorem kE_M : ∀ (w : World) (base : Nat) (ok : Nat → Prop) (x : SE), kE.M w base ok x (encE x) := fun w b o x => k52_mkM w b o x
def putL : Array Value → Nat → List Value → Array Value
  | cur, _, [] => cur
  | cur, o, v :: r => putL (cur.setIfInBounds o v) (o + 1) r
theorem putL_size : ∀ (L : List Value) (cur : Array Value) (o : Nat), (putL cur o L).size = cur.size
  | [], _, _ => rfl
  | v :: r, cur, o => by rw [putL, putL_size r]; simp
theorem putL_before : ∀ (L : List Value) (cur : Array Value) (o j : Nat), j < o → (putL cur o L)[j]? = cur[j]?
  | [], _, _, _, _ => rfl
  | v :: r, cur, o, j, h => by rw [putL, putL_before r _ _ _ (by omega), Array.getElem?_setIfInBounds_ne (by omega)]
theorem putL_behind : ∀ (L : List Value) (cur : Array Value) (o j : Nat), o + L.length ≤ j → (putL cur o L)[j]? = cur[j]?
  | [], _, _, _, _ => rfl
  | v :: r, cur, o, j, h => by
    rw [List.length_cons] at h
    rw [putL, putL_behind r _ _ _ (by omega), Array.getElem?_setIfInBounds_ne (by omega)]
theorem putL_in : ∀ (L : List Value) (cur : Array Value) (o i : Nat), o + L.length ≤ cur.size → i < L.length → (putL cur o L)[o + i]? = L[i]?
  | [], _, _, _, _, h => absurd h (by simp)
  | v :: r, cur, o, 0, h, _ => by
    rw [List.length_cons] at h
    simp only [Nat.add_zero]
    rw [putL, putL_before _ _ _ _ (by omega), Array.getElem?_setIfInBounds_self_of_lt (by omega)]
    rfl
  | v :: r, cur, o, i + 1, h, hi => by
    rw [List.length_cons] at h hi
    rw [putL, show o + (i + 1) = o + 1 + i by omega, putL_in r _ _ _ (by simp; omega) (by omega)]
    rfl
theorem setCells_block : ∀ (L : List Value) (w : World) (g o : Nat) {cur : Array Value} {e : Nat}, w.heap[g]? = some (.cells cur e (0, 0)) → (w.setCells g o L).heap[g]? = some (.cells (putL cur o L) e (0, 0))
  | [], _, _, _, _, _, h => h
  | v :: r, w, g, o, cur, e, h => by
    rw [World.setCells, putL]
    exact setCells_block r _ g (o + 1) (by simp [World.setCell, Array.getElem?_modify, h])
section
variable {α : Type}
/-- One struct of a row of one's own is written anew. -/
theorem R_setK {d : Kd α} {enc : α → List Value} (hE : ∀ w base ok x cs, d.M w base ok x cs → cs = enc x) (hM : ∀ w base ok x, d.M w base ok x (enc x)) (hk : ∀ x, (enc x).length = d.sz)
    {e base g n c : Nat} {ok : Nat → Prop} {w : World} {ys : List α} (h : d.R e w base ok (.slice (some ⟨g, 0, none⟩) n c) ys) (i : Nat) (hi : i < ys.length) (x : α) :
    d.R e (w.setCells g (i * d.sz) (enc x)) base ok (.slice (some ⟨g, 0, none⟩) n c) (ys.set i x) := by
  obtain ⟨hok, inner, ⟨hlen, hown⟩, hrl, hrw⟩ := h
  rcases hown with ⟨hv, h0⟩ | ⟨g', cap, cur, hv, hb, hg, hc1, hc2, hcs, htk⟩
  · cases hv
  injection hv with hv1 hv2 hv3
  injection hv1 with hv1
  injection hv1 with hv1
  subst hv1 hv2 hv3
  have hle : ys.length * d.sz ≤ c * d.sz := Nat.mul_le_mul_right _ hc1
  have hik : i * d.sz + d.sz ≤ ys.length * d.sz := by have := Nat.mul_le_mul_right d.sz (show i + 1 ≤ ys.length from hi); rwa [Nat.add_mul, Nat.one_mul] at this
  have hbl := setCells_block (enc x) w g (i * d.sz) hg
  have hsl : (ys.set i x).length = ys.length := List.length_set
  have hps : (putL cur (i * d.sz) (enc x)).toList.length = c * d.sz := by rw [Array.length_toList, putL_size, hcs]
  have hin : ∀ j, j < ys.length * d.sz → cur[j]? = inner[j]? := fun j hj => by rw [← htk, List.getElem?_take, if_pos hj, Array.getElem?_toList]
  refine ⟨hok, (putL cur (i * d.sz) (enc x)).toList.take (ys.length * d.sz), ⟨by rw [hsl, List.length_take, hps]; omega, .inr ⟨g, c, _, by rw [hsl], hb, hbl, by rw [hsl]; exact hc1, hc2, by rw [putL_size, hcs], by rw [hsl]⟩⟩, by rw [hsl, List.length_take, hps]; omega, fun j p hp => ?_⟩
  have hj : j < ys.length := by have := (List.getElem?_eq_some_iff.1 hp).1; omega
  have hjk : j * d.sz + d.sz ≤ ys.length * d.sz := by have := Nat.mul_le_mul_right d.sz (show j + 1 ≤ ys.length from hj); rwa [Nat.add_mul, Nat.one_mul] at this
  have hwin : ∀ t, t < d.sz → ((List.take d.sz (List.drop (j * d.sz) ((putL cur (i * d.sz) (enc x)).toList.take (ys.length * d.sz))))[t]? = (putL cur (i * d.sz) (enc x))[j * d.sz + t]?) := fun t ht => by
    rw [List.getElem?_take, if_pos ht, List.getElem?_drop, List.getElem?_take, if_pos (by omega), Array.getElem?_toList]
  have hall : List.take d.sz (List.drop (j * d.sz) ((putL cur (i * d.sz) (enc x)).toList.take (ys.length * d.sz))) = enc p := by
    apply List.ext_getElem?
    intro t
    by_cases ht : t < d.sz
    · rw [hwin t ht]
      by_cases hji : j = i
      · subst hji
        have hpx : p = x := by rw [List.getElem?_set_self hi] at hp; exact (Option.some.inj hp).symm
        rw [hpx, putL_in (enc x) cur (j * d.sz) t (by rw [hk]; omega) (by rw [hk]; exact ht)]
      · have hpy : ys[j]? = some p := by rw [List.getElem?_set_ne (fun e => hji e.symm)] at hp; exact hp
        have hw := hE _ _ _ _ _ (hrw j p hpy)
        rw [← hw, List.getElem?_take, if_pos ht, List.getElem?_drop, ← hin _ (by omega)]
        rcases Nat.lt_or_ge j i with hlt | hge
        · refine putL_before _ _ _ _ ?_
          have := Nat.mul_le_mul_right d.sz (show j + 1 ≤ i from hlt)
          rw [Nat.add_mul, Nat.one_mul] at this
          omega
        · refine putL_behind _ _ _ _ ?_
          rw [hk]
          have := Nat.mul_le_mul_right d.sz (show i + 1 ≤ j by omega)
          rw [Nat.add_mul, Nat.one_mul] at this
          omega
    · rw [List.getElem?_eq_none (by rw [List.length_take]; omega), List.getElem?_eq_none (by rw [hk]; omega)]
  rw [hall]
  exact hM _ _ _ p
end
/-- One entry of a row of one's own is moved. -/
theorem R_off {w : World} {base g n c : Nat} {ok : Nat → Prop} {es : List SE} (h : Kd.R kE 52 w base ok (.slice (some ⟨g, 0, none⟩) n c) es) (i : Nat) (hi : i < es.length) :
    base ≤ g ∧ ok g ∧ g < w.heap.size ∧ w.cell? ⟨g, i * 5 + 1, none⟩ = some (.int .i64 es[i].f1) ∧ w.frozen? ⟨g, i * 5 + 1, none⟩ = false ∧
      ∀ o : Int, Kd.R kE 52 (w.setCell ⟨g, i * 5 + 1, none⟩ (.int .i64 o)) base ok (.slice (some ⟨g, 0, none⟩) n c) (es.set i { es[i] with f1 := o }) := by
  have hR := h
  obtain ⟨hok, inner, ⟨hlen, hown⟩, hrl, hrw⟩ := h
  rcases hown with ⟨hv, h0⟩ | ⟨g', cap, cur, hv, hb, hg, hc1, hc2, hcs, htk⟩
  · cases hv
  injection hv with hv1 hv2 hv3
  injection hv1 with hv1
  injection hv1 with hv1
  subst hv1 hv2 hv3
  have hsz : kE.sz = 5 := rfl
  have hw := kE_E _ _ _ _ _ (hrw i es[i] (List.getElem?_eq_getElem hi))
  have hik : i * 5 + 5 ≤ es.length * 5 := by omega
  have hat : ∀ j, j < 5 → cur[i * 5 + j]? = (encE es[i])[j]? := fun j hj => by
    have e1 : cur[i * 5 + j]? = inner[i * 5 + j]? := by rw [← htk, List.getElem?_take, if_pos (by rw [hsz]; omega), Array.getElem?_toList]
    rw [e1, ← hw, List.getElem?_take, if_pos (by rw [hsz]; exact hj), List.getElem?_drop, hsz]
  have a0 := hat 0 (by decide)
  have a1 := hat 1 (by decide)
  have a2 := hat 2 (by decide)
  have a3 := hat 3 (by decide)
  have a4 := hat 4 (by decide)
  refine ⟨hb, hok g rfl, blk_lt hg, ?_, by simp [World.frozen?, hg], fun o => ?_⟩
  · have : w.cell? ⟨g, i * 5 + 1, none⟩ = cur[i * 5 + 1]? := by simp [World.cell?, hg]
    rw [this, a1]
    rfl
  · have hs := R_setK kE_E kE_M (fun _ => rfl) hR i hi { es[i] with f1 := o }
    have e : w.setCells g (i * kE.sz) (encE { es[i] with f1 := o }) = w.setCell ⟨g, i * 5 + 1, none⟩ (.int .i64 o) := by
      rw [hsz]
      simp only [encE, World.setCells]
      rw [setCell_same hg (o := i * 5) a0]
      have hg1 := blk_set (t := 52) hg (i * 5 + 1) (.int .i64 o)
      have b2 : (cur.setIfInBounds (i * 5 + 1) (.int .i64 o))[i * 5 + 2]? = some (.int .i64 es[i].f2) := by rw [Array.getElem?_setIfInBounds_ne (by omega), a2]; rfl
      have b3 : (cur.setIfInBounds (i * 5 + 1) (.int .i64 o))[i * 5 + 3]? = some (.int .u64 es[i].f3) := by rw [Array.getElem?_setIfInBounds_ne (by omega), a3]; rfl
      have b4 : (cur.setIfInBounds (i * 5 + 1) (.int .i64 o))[i * 5 + 4]? = some (.bool es[i].f4) := by rw [Array.getElem?_setIfInBounds_ne (by omega), a4]; rfl
      rw [setCell_same hg1 (o := i * 5 + 1 + 1) b2, setCell_same hg1 (o := i * 5 + 1 + 1 + 1) b3, setCell_same hg1 (o := i * 5 + 1 + 1 + 1 + 1) b4]
    rw [e] at hs
    exact hs
theorem R_some {w : World} {base n c : Nat} {A : Option Addr} {ok : Nat → Prop} {es : List SE} (h : Kd.R kE 52 w base ok (.slice A n c) es) (hx : 0 < es.length) : ∃ g, A = some ⟨g, 0, none⟩ := by
  obtain ⟨hok, inner, ⟨hlen, hown⟩, hrl, hrw⟩ := h
  rcases hown with ⟨hv, h0⟩ | ⟨g', cap, cur, hv, hb, hg, hc1, hc2, hcs, htk⟩
  · omega
  · injection hv with hv1 hv2 hv3
    exact ⟨_, hv1⟩
/-- The first i are moved. -/
def movE (k : Int) (E : List Ent) (i : Nat) : List SE := ((E.take i).map fun e => ES (shiftE k e)) ++ (E.drop i).map ES
theorem movE_len (k : Int) (E : List Ent) (i : Nat) : (movE k E i).length = E.length := by
  unfold movE
  rw [List.length_append, List.length_map, List.length_map, List.length_take, List.length_drop]
  omega
theorem movE_at (k : Int) (E : List Ent) (i : Nat) (h : i < E.length) (h' : i < (movE k E i).length) : (movE k E i)[i] = ES E[i] := by
  have e : (movE k E i)[i]? = some (ES E[i]) := by
    unfold movE
    rw [List.getElem?_append_right (by rw [List.length_map, List.length_take]; omega)]
    rw [List.length_map, List.length_take, Nat.min_eq_left (Nat.le_of_lt h), Nat.sub_self, List.getElem?_map, List.getElem?_drop, Nat.add_zero, List.getElem?_eq_getElem h]
    rfl
  rw [List.getElem?_eq_getElem h'] at e
  exact Option.some.inj e
theorem movE_step (k : Int) (E : List Ent) (i : Nat) (h : i < E.length) : (movE k E i).set i { ES E[i] with f1 := E[i].off + k } = movE k E (i + 1) := by
  unfold movE
  rw [List.set_append_right _ _ (by rw [List.length_map, List.length_take]; omega), List.length_map, List.length_take, Nat.min_eq_left (Nat.le_of_lt h), Nat.sub_self]
  rw [List.drop_eq_getElem_cons h, List.map_cons, List.set_cons_zero, List.take_succ_eq_append_getElem h, List.map_append, List.append_assoc]
  rfl
theorem movE_zero (k : Int) (E : List Ent) : movE k E 0 = E.map ES := by simp [movE]
theorem movE_all (k : Int) (E : List Ent) : movE k E E.length = (E.map (shiftE k)).map ES := by simp [movE]
theorem frame_codes (l : List Rec) : ((frameS l).2 = 0 ∧ (frameS l).1.length ≤ 7100 ∧ fitsS l = true) ∨ frameS l = ([], 1) := by
  by_cases h : (frameS l).2 = 0
  · exact Or.inl ⟨h, (frameS_length h).2, (frameS_ok h).1⟩
  · exact Or.inr (frameS_bad h)
theorem size_le {N : Nat} {st : Dsk} (h : st.Sm N) (k : ByteArray) : 0 ≤ (st.size k).1 ∧ (st.size k).1 ≤ 1000000 := by
  unfold Dsk.size
  cases hl : look st.m k with
  | none => exact ⟨Int.le_refl _, by simp⟩
  | some f => have := h.files k f hl; have := h.small; simp only; omega
theorem of_frame_off {l : List Rec} (h : (frameS l).2 = 0) : (ofS (frameS l).1).1.length ≤ 16 ∧ ∀ e ∈ (ofS (frameS l).1).1, 0 ≤ e.off ∧ e.off ≤ 1048576 := by
  have hl1 : ∀ x ∈ [l], (frameS x).2 = 0 := by intro x hx; rw [List.mem_singleton.1 hx]; exact h
  have h1 := ofP_frames [l] hl1
  rw [framesS_one] at h1
  have h2 : ofS (frameS l).1 = (ofL 0 [l], (frameS l).1.length) := h1
  rw [h2]
  have hz := (frameS_length h).2
  refine ⟨by rw [ofL_length]; have := flat_le [l] hl1; simpa using this, fun e he => ?_⟩
  have hr := all_right [l] hl1 (by rw [framesS_one]; omega)
  unfold allRight at hr
  have := rightE_facts (List.all_eq_true.1 hr e he)
  exact ⟨this.2.2.1, this.2.2.2.1⟩
set_option maxHeartbeats 6400000 in
set_option maxRecDepth 100000 in
theorem seg_Write.calls (w : World) (A : Nat → Prop) (d : Nat) (st : Dsk) {N : Nat} (h : DskAt w A d st) (hA : ∀ k, A k → k < w.heap.size) (hs : st.Sm N) (n : Int) (hn : -9223372036854775808 ≤ n ∧ n ≤ 9223372036854775807) (hL : LaidW w)
    (A0 : Option Addr) (c0 : Nat) (l : List Rec) (rs : List SR) (hrs : rs = l.map RS) (hC : Kd.C k50 w A0 rs.length rs) (hc0 : rs.length ≤ c0) (hAW : ∀ W, Frm A w W → LaidW W) :
    Calls Tryz.prog 16 #[.pointer (some ⟨d, 0, none⟩), .int .i64 n, .slice A0 rs.length c0] w (EntPost w A d (segWrite st n l)) := by
  have H := Aside0.mk h
  have HL := Aside0.mk hL
  have HLW := Aside0.mk hAW
  have HS := Aside0.mk hs
  have HA := Aside0.mk hA
  have HC := Aside0.mk hC
  have HC0 := Aside0.mk hc0
  have HEV := Aside0.mk (Ev.rounds (ev_frameBytes l))
  rw [← hrs] at HEV
  have HRS := Aside0.mk hrs
  clear h hL hs hA hC hc0 hAW hrs
  unfold EntPost
  obtain ⟨X, hX⟩ : ∃ X, segWrite st n l = X := ⟨_, rfl⟩
  rw [hX]
  have HX := Aside0.mk hX
  clear hX
  go_enter Tryz.func16, Tryz.ntmps16
  go_wp2_with fail
  refine (seg_right.calls n _).mono ?_
  rintro e w0 ⟨rfl, rfl⟩
  cases hr : rightN n with
  | false =>
    have e1 := Aside0.mk (show segWrite st n l = (st, [], 1) by simp [segWrite, hr])
    replace e1 := Aside0.mk (e1.out.symm.trans HX.out)
    go_wp2_with fail
    go_ret2
    rw [← e1.out]
    exact ent_still H.out HA.out (Below.refl _ _) (Kd.R_nil _ _ _ _ (fun _ => True))
  | true =>
    have e1 := Aside0.mk (show segWrite st n l = if (frameS l).2 = 0 then
      if (st.append (sgN n) (B (frameS l).1)).2 = 0 then ((st.append (sgN n) (B (frameS l).1)).1, (ofS (frameS l).1).1.map (shiftE (st.size (sgN n)).1), 0)
      else ((st.append (sgN n) (B (frameS l).1)).1, [], (st.append (sgN n) (B (frameS l).1)).2)
    else (st, [], (frameS l).2) by simp [segWrite, hr])
    go_wp2_with fail
    obtain ⟨q, hq⟩ := HEV.out
    have HQ := Aside0.mk hq
    clear hq HEV
    refine (frame_Bytes.calls q A0 c0 rs _ _ _ HC.out HC0.out HQ.out).mono ?_
    rintro e w1 ⟨rfl, b1⟩
    have B1 := Aside0.mk b1
    replace e1 := Aside0.mk (e1.out.symm.trans HX.out)
    clear b1 HQ
    rcases frame_codes l with ⟨hf0, hfz, hff⟩ | hb
    · rw [hf0, if_pos rfl] at e1
      rw [hf0]
      have HOO := Aside0.mk (of_frame_off hf0)
      have HOE := Aside0.mk (Ev.rounds (ev_hOf (B (frameS l).1) (by rw [B_size]; omega)))
      rw [L_B] at HOE
      have HBZ := Aside0.mk (show (B (frameS l).1).size ≤ 7100 by rw [B_size]; exact hfz)
      have hsl := size_le HS.out (sgN n)
      generalize B (frameS l).1 = b at HBZ HOE e1 ⊢
      generalize ofS (frameS l).1 = oo at HOO HOE e1 ⊢
      obtain ⟨E, og⟩ := oo
      simp only at HOO HOE ⊢
      clear hf0 hfz hff HC
      go_wp2_with fail
      refine (seg_Name.calls n hn _ (HL.out.below B1.out)).mono ?_
      rintro e w2 ⟨rfl, b2⟩
      have B2 := Aside0.mk (B1.out.trans (b2.mono B1.out.size))
      clear b2
      go_wp2_with fail
      refine (disk_Size.calls w2 A d st (H.out.below B2.out) (sgN n) (sgN_size n)).mono ?_
      rintro e w3 ⟨rfl, b3⟩
      have B3 := Aside0.mk (B2.out.trans (b3.mono B2.out.size))
      clear b3
      generalize st.size (sgN n) = z at hsl e1 ⊢
      obtain ⟨z1, z2⟩ := z
      simp only at hsl ⊢
      go_wp2_with fail
      refine (seg_Name.calls n hn _ (HL.out.below B3.out)).mono ?_
      rintro e w4 ⟨rfl, b4⟩
      have B4 := Aside0.mk (B3.out.trans (b4.mono B3.out.size))
      clear b4
      go_wp2_with fail
      refine (disk_Append.calls w4 A d st (H.out.below B4.out) (sgN n) (sgN_size n) b (by have := HS.out.room; omega) (by have := HS.out.fileOf (sgN n); have := HS.out.small; have := HBZ.out; omega)).mono ?_
      rintro e w5 ⟨rfl, h5, f5⟩
      have F5 := Aside0.mk ((Frm.of_new (S := A) B4.out).andThen f5 (fun i hi => Or.inl hi))
      have H5 := Aside0.mk (show DskAt w5 (fun k => gr A w k ∧ k < w5.heap.size) d (st.append (sgN n) b).1 from h5.mono (fun k hk hg => ⟨hg.imp id (fun hle => Nat.le_trans B4.out.size hle), hk⟩))
      generalize st.append (sgN n) b = ap at H5 e1 ⊢
      obtain ⟨ap1, ap2⟩ := ap
      clear h5 f5 B1 B2 B3 B4
      by_cases ha : ap2 = 0
      · subst ha
        rw [if_pos rfl] at e1
        obtain ⟨q2, hq2⟩ := HOE.out
        have HQ2 := Aside0.mk hq2
        clear hq2 HOE
        go_wp2_with fail
        refine (hint_Of.calls q2 b _ _ w5 HQ2.out).mono ?_
        rintro e w6 ⟨v, rfl, r6, b6⟩
        have R6 := Aside0.mk (Kd.R_bound r6)
        have B6 := Aside0.mk b6
        clear b6 HQ2
        obtain ⟨A6, c6, rfl⟩ := Kd.R_slice r6
        clear r6
        have HEL := Aside0.mk (show (E.map ES).length = E.length from List.length_map _)
        have hel := HEL.out
        rw [HEL.out]
        have h16 := HOO.out.1
        generalize hel2 : E.length = en at h16 ⊢
        go_wp2_with fail
        go_loopw [49] (fun v49 wr => ∃ i : Nat, i ≤ en ∧ v49 = .int .i64 i ∧ Aside0 (Kd.R kE 52 wr w5.heap.size (fun _ => True) (.slice A6 en c6) (movE z1 E i)) ∧ Aside0 (Below w5.heap.size w5 wr)) (fun v49 _ => en - (intOf v49).toNat)
        case atStart => exact ⟨0, Nat.zero_le _, rfl, ⟨by have h := R6.out; rw [HEL.out, hel2] at h; rw [movE_zero]; exact Kd.R_mono h (fun _ _ => trivial)⟩, B6⟩
        case round =>
          obtain ⟨i, hi, rfl, HR, HB⟩ := hrel
          by_cases hlt : i < en
          · have d1 : decide ((i : Int) < (en : Int)) = true := decide_eq_true (by omega)
            have i0 : 0 ≤ (i : Int) := by omega
            have i1 : (i : Int) < (en : Int) := by omega
            have hiE : i < E.length := by omega
            obtain ⟨g, rfl⟩ := R_some HR.out (by rw [movE_len]; omega)
            obtain ⟨o1, _, o3, o4, o5, o6⟩ := R_off HR.out i (by rw [movE_len]; exact hiE)
            simp only [movE_at z1 E i hiE] at o4 o6
            have ho := HOO.out.2 E[i] (List.getElem_mem hiE)
            have hst := movE_step z1 E i hiE
            obtain ⟨off, hoe⟩ : ∃ off, E[i].off = off := ⟨_, rfl⟩
            have e4 : (ES E[i]).f1 = off := hoe
            rw [e4] at o4
            rw [hoe] at ho hst
            have hz0 := hsl.1
            have hz1 := hsl.2
            obtain ⟨ho0, ho1⟩ := ho
            have O6 := Aside0.mk (o6 (off + z1))
            rw [hst] at O6
            have BS := Aside0.mk (HB.out.setCell (p := ⟨g, i * 5 + 1, none⟩) o1 (.int .i64 (off + z1)))
            clear o6 hst hoe e4 o1
            go_wp2_with fail
            go_roundw
            case rel => exact ⟨i + 1, by omega, by go_num, O6, BS⟩
            case measure => simp [intOf]; omega
          · have d1 : decide ((i : Int) < (en : Int)) = false := decide_eq_false (by omega)
            have hie : i = E.length := by omega
            go_wp2_with fail
            go_ret2
            rw [← e1.out]
            refine ⟨_, _, rfl, H5.out.below HB.out, fun k hk => ⟨hk.1, Nat.lt_of_lt_of_le hk.2 HB.out.size⟩, ?_, F5.out.andThen (Frm.of_new (S := fun k => gr A w k ∧ k < w5.heap.size) HB.out) (fun i hi => hi.1)⟩
            have h := HR.out
            rw [hie, movE_all] at h
            exact Kd.R_lower (Kd.R_mono (Kd.R_bound h) (fun k hk ht => by have := hk.2.1; have := ht.2; omega)) F5.out.size
      · rw [if_neg ha] at e1
        have ha' : (ap2 == 0) = false := beq_eq_false_iff_ne.2 ha
        go_wp2_with fail
        go_ret2
        rw [← e1.out]
        exact ⟨_, _, rfl, H5.out, fun k hk => hk, Kd.R_nil _ _ _ _ _, F5.out⟩
    · rw [hb, if_neg (by decide)] at e1
      rw [hb]
      clear hb
      go_wp2_with fail
      go_ret2
      rw [← e1.out]
      exact ent_still H.out HA.out B1.out (Kd.R_nil _ _ _ _ (fun _ => True))
end Go.Proofs.YthndpknocofioaaGreatDoor.Thw
/-! ## Layer 8 (segment): the numbers of a disk's segments. -/
namespace Go.Proofs.YthndpknocofioaaGreatDoor.Thw
open Go Go.RowKit Go.Maps Go.Proofs.YthndpknocofioaaGreatDoor.Print Go.Proofs.YthndpknocofioaaGreatDoorW.PrintWords Go.Proofs.YthndpknocofioaaGreatDoorW.PrintLast Go.Proofs.YthndpknocofioaaGreatDoorW.PrintMore
set_option linter.unusedVariables false
set_option linter.unusedSimpArgs false
/-- The segment's number that a name tells. -/
def numL (l : Bs) : Option Nat := match Go.Lib.decFrom 0 (l.drop 1) with
  | some n => if n ≤ 999999 ∧ l = 115 :: six n then some n else none
  | none => none
theorem numL_some {l : Bs} {n : Nat} (h : numL l = some n) : IsN l n := by
  unfold numL at h
  split at h
  · split at h
    · rename_i h1
      cases h
      exact h1
    · cases h
  · cases h
theorem numL_of {l : Bs} {n : Nat} (h : IsN l n) : numL l = some n := by
  have h1 : Go.Lib.decFrom 0 (l.drop 1) = some n := by
    rw [h.2]
    have := digs_from 6 0 n (by have := h.1; omega)
    rw [show (115 :: six n : Bs).drop 1 = digs 6 n from rfl, this]
    simp
  unfold numL
  rw [h1]
  simp only
  rw [if_pos (show n ≤ 999999 ∧ l = 115 :: six n from h)]
theorem segO_num {s : ByteArray} {r : Int × Bool} (h : segO s r) : r = match numL (L s) with | some n => ((n : Int), true) | none => (0, false) := by
  rcases h with ⟨n, h, rfl⟩ | ⟨h, rfl⟩
  · rw [numL_of h]
  · cases hn : numL (L s) with
    | none => rfl
    | some n => exact absurd (numL_some hn) (h n)
def nums (l : List ByteArray) : List Nat := l.filterMap fun s => numL (L s)
theorem nums_snoc (l : List ByteArray) (i : Nat) (h : i < l.length) : nums (l.take (i + 1)) = nums (l.take i) ++ (match numL (L l[i]) with | some n => [n] | none => []) := by
  unfold nums
  rw [List.take_succ_eq_append_getElem h, List.filterMap_append]
  congr 1
  simp only [List.filterMap_cons, List.filterMap_nil]
  cases numL (L l[i]) <;> rfl
theorem six_rise {n m : Nat} {a b : ByteArray} (ha : IsN (L a) n) (hb : IsN (L b) m) (h : a.data.toList < b.data.toList) : n < m := by
  have h' : L a < L b := h
  rw [ha.2, hb.2] at h'
  have h2 : six n < six m := by
    rcases List.cons_lt_cons_iff.1 h' with h3 | ⟨_, h3⟩
    · exact absurd h3 (UInt8.lt_irrefl _)
    · exact h3
  exact (digs_lt 6 n m (by have := ha.1; omega) (by have := hb.1; omega)).1 h2
theorem nums_rise : ∀ {l : List ByteArray}, l.Pairwise (fun a b => a.data.toList < b.data.toList) → (nums l).Pairwise (· < ·)
  | [], _ => List.Pairwise.nil
  | s :: l, h => by
    rw [List.pairwise_cons] at h
    unfold nums
    rw [List.filterMap_cons]
    cases hs : numL (L s) with
    | none => exact nums_rise h.2
    | some n =>
      refine List.pairwise_cons.2 ⟨fun m hm => ?_, nums_rise h.2⟩
      obtain ⟨t, ht, hm⟩ := List.mem_filterMap.1 hm
      exact six_rise (numL_some hs) (numL_some hm) (h.1 t ht)
/-- A rising row, however it comes, sorted. -/
theorem sort_rise {l : List Nat} {ys : List Int} (hp : ys.Perm (l.map fun n : Nat => (n : Int))) (hr : l.Pairwise (· < ·)) : (ys.mergeSort fun x y => decide (x ≤ y)) = l.map fun n : Nat => (n : Int) := by
  have tr : ∀ a b c : Int, decide (a ≤ b) = true → decide (b ≤ c) = true → decide (a ≤ c) = true := fun a b c h1 h2 => by simp at *; omega
  have tot : ∀ a b : Int, (decide (a ≤ b) || decide (b ≤ a)) = true := fun a b => by simp; omega
  have h1 := List.pairwise_mergeSort tr tot ys
  have h2 : (l.map fun n : Nat => (n : Int)).Pairwise (fun a b => decide (a ≤ b) = true) := List.pairwise_map.2 (hr.imp fun h => by simp; omega)
  exact List.Perm.eq_of_pairwise (le := fun a b : Int => decide (a ≤ b) = true) (fun a b _ _ x y => by simp at x y; omega) h1 h2 ((List.mergeSort_perm ys _).trans hp)
theorem intInj (a b : Int) (h : Value.int .i64 a = Value.int .i64 b) : a = b := by injection h
theorem intKeyed : Go.Maps.Keyed Tryz.prog 3 := Go.Maps.int_keyed Tryz.underlying3
theorem wf_nat (n : Nat) (h : n ≤ 999999) : (Lit.int .i64 (n : Int)).wf = true := by
  have h1 : IntKind.i64.min = -9223372036854775808 := by decide
  have h2 : IntKind.i64.max = 9223372036854775807 := by decide
  simp [Lit.wf, h1, h2]
  omega
theorem intOk (n : Nat) (h : n ≤ 999999) : ∃ l, keyOf Tryz.prog 3 (.int .i64 (n : Int)) = some l := ⟨_, Go.Maps.keyOf_int_mk Tryz.underlying3 (wf_nat n h)⟩
theorem intinfo : (Tryz.prog.info? 3).map (fun i => (i.zero, i.size, i.bytes)) = some (some (.int .i64 0), 1, 8) := by kernel_rfl
def marks (l : List Nat) : List (Int × Bool) := l.map fun n : Nat => ((n : Int), true)
theorem marks_put {l : List Nat} {n : Nat} (h : n ∉ l) : put (marks l) (n : Int) true = marks (l ++ [n]) := by
  rw [put_none]
  · simp [marks]
  · intro p hp e
    obtain ⟨m, hm, rfl⟩ := List.mem_map.1 hp
    have : (m : Int) = (n : Int) := e
    exact h (by rw [show n = m by omega]; exact hm)
theorem names_pw {m : Fls} (hn : (m.map (·.1)).Nodup) : (names m).Pairwise (fun a b => a.data.toList < b.data.toList) := by
  have hn2 : (names m).Nodup := by
    unfold names
    exact (sorted_perm' (m.map fun x => x.1)).nodup_iff.2 hn
  have tr : ∀ a b c : List UInt8, leB a b = true → leB b c = true → leB a c = true := fun a b c h1 h2 => by simp only [leB, decide_eq_true_eq] at *; exact List.le_trans h1 h2
  have tot : ∀ a b : List UInt8, (leB a b || leB b a) = true := fun a b => by simp only [leB, Bool.or_eq_true, decide_eq_true_eq]; exact List.le_total a b
  have h1 := List.pairwise_mergeSort tr tot ((m.map (·.1)).map fun s => s.data.toList)
  have h3 : (names m).Pairwise fun a b => leB a.data.toList b.data.toList = true := by
    unfold names sorted
    refine List.pairwise_map.2 (h1.imp fun {a b} h => by simpa using h)
  refine (h3.and hn2).imp fun {a b} h => ?_
  obtain ⟨h4, h5⟩ := h
  simp only [leB, decide_eq_true_eq] at h4
  rcases List.le_iff_lt_or_eq.1 h4 with h6 | h6
  · exact h6
  · exact absurd (WideShapes.bytes_inj h6) h5
theorem DskAt.nodup {w : World} {A : Nat → Prop} {d : Nat} {st : Dsk} (h : DskAt w A d st) : (st.m.map (·.1)).Nodup := by
  obtain ⟨mb, a1, a2, hb, hm⟩ := h
  exact hm.nodup
theorem nums_fresh {l : List ByteArray} (h : l.Pairwise (fun a b => a.data.toList < b.data.toList)) {i : Nat} (hi : i < l.length) {n : Nat} (hn : numL (L l[i]) = some n) : n ∉ nums (l.take i) := by
  intro hm
  have h1 := nums_rise (h.sublist (List.take_sublist (i + 1) l))
  rw [nums_snoc l i hi, hn] at h1
  have := (List.pairwise_append.1 h1).2.2 n hm n (by simp)
  omega
theorem nums_len (l : List ByteArray) : (nums l).length ≤ l.length := List.length_filterMap_le _ _
theorem R_ints_sorted {w : World} {base : Nat} {v : Value} {ys : List Int} (h : (Kd.int .i64).R 3 w base (fun _ => True) v ys) (hx : 0 < ys.length) :
    ∃ g c, v = .slice (some ⟨g, 0, none⟩) ys.length c ∧ g < w.heap.size ∧ base ≤ g ∧ Go.Sort.Holds (Value.int .i64) w g 0 ys.toArray ∧
      ∀ n os (ts : List Int), ts.length = ys.length → (Kd.int .i64).R 3 (Go.Sort.grow (Go.Sort.putRow (Value.int .i64) (Go.Sort.ahead w n) g 0 ts.toArray) os) base (fun _ => True) v ts := by
  obtain ⟨hlen, hown⟩ := Kd.own_of_R h
  rcases hown with ⟨hv, h0⟩ | ⟨g, cap, cur, rfl, hb, hg, hc1, hc2, hcs, htk⟩
  · omega
  · refine ⟨g, cap, rfl, blk_lt hg, hb, holds_of_blockI hg (by simpa [encs] using htk), fun n os ts hts => ?_⟩
    have := ownsRow_sortedI (n := n) (os := os) (ts := ts) hts hb hg hc1 hc2 hcs
    exact Kd.R_of_own (by rw [← hts] at this ⊢; exact this) (fun _ _ => trivial)
set_option maxHeartbeats 6400000 in
set_option maxRecDepth 100000 in
theorem seg_All.calls (w : World) (A : Nat → Prop) (d : Nat) (st : Dsk) (h : DskAt w A d st) (hlen : st.m.length ≤ 1000000) (hnm : ∀ s ∈ names st.m, s.size ≤ 1000000) (hL : LaidW w) :
    Calls Tryz.prog 47 #[.pointer (some ⟨d, 0, none⟩)] w fun e w' => ∃ v, e = .returned v ∧ (Kd.int .i64).R 3 w' w.heap.size (fun _ => True) v ((nums (names st.m)).map fun n : Nat => (n : Int)) ∧ Below w.heap.size w w' := by
  have hmm := @run_makeMap Tryz.prog
  have HLI := Aside0.mk (disk_List.calls (w.alloc (.map #[] 0)) A d st (h.alloc _) hlen)
  have HPW := Aside0.mk (names_pw h.nodup)
  have HNM := Aside0.mk hnm
  have HL := Aside0.mk hL
  have HLN := Aside0.mk (show (names st.m).length ≤ 1000000 by unfold names; rw [sorted_length, List.length_map]; exact hlen)
  clear h hlen hnm hL
  generalize names st.m = ns at HLI HPW HNM HLN ⊢
  go_enter Tryz.func47, Tryz.ntmps47
  go_wp2_with fail
  go_step3
  go_wp2_with fail
  go_step3
  go_wp2_with fail
  refine HLI.out.mono ?_
  rintro e w2 ⟨v, rfl, hR, hB⟩
  have M2 := Aside0.mk ((MapOf.made (P := Tryz.prog) (kt := 3) (kv := Value.int .i64) (ev := Value.bool) w).frm (Frm.of_new (S := None') hB) (fun x => x))
  have B2 := Aside0.mk (((Below.refl w.heap.size w).alloc (Nat.le_refl _) (.map #[] 0)).trans (hB.mono (by simp)))
  have R2 := Aside0.mk (Kd.R_mono (Kd.R_bound hR) (ok' := fun k => k ≠ w.heap.size) (fun k hk => by have := hk.2.1; simp at this; omega))
  obtain ⟨A2, c2, rfl, hc2, _⟩ := Kd.R_reads hR
  clear hR hB HLI
  have hnl := HLN.out
  obtain ⟨nl, hnl2⟩ : ∃ nl, ns.length = nl := ⟨_, rfl⟩
  rw [hnl2]
  rw [hnl2] at hnl R2
  go_wp2_with fail
  go_loopw [14] (fun v14 wr => ∃ i : Nat, i ≤ nl ∧ v14 = .int .i64 i ∧ Aside0 (MapOf Tryz.prog 3 (Value.int .i64) Value.bool wr w.heap.size (marks (nums (ns.take i)))) ∧ Aside0 (Kd.string.R 9 wr (w.alloc (.map #[] 0)).heap.size (fun k => k ≠ w.heap.size) (.slice A2 nl c2) ns) ∧ Aside0 (Below w.heap.size w wr)) (fun v14 _ => nl - (intOf v14).toNat)
  case atStart => exact ⟨0, Nat.zero_le _, rfl, M2, R2, B2⟩
  case round =>
    obtain ⟨i, hi, rfl, HM, HR, HB⟩ := hrel
    by_cases hlt : i < nl
    · have d1 : decide ((i : Int) < (nl : Int)) = true := decide_eq_true (by omega)
      have i0 : 0 ≤ (i : Int) := by omega
      have i1 : (i : Int) < (nl : Int) := by omega
      have hin : i < ns.length := by omega
      obtain ⟨_, _, hee, _, hC⟩ := Kd.R_reads HR.out
      have ⟨ad, hA2, hcell⟩ : ∃ ad, A2 = some ad ∧ wr.cell? (ad.add i) = some (.string ns[i]) := by
        injection hee with h1 h2 h3
        obtain ⟨ad, had, hc⟩ := hC.2.2 (by omega)
        obtain ⟨c, hl2, hK, hcell⟩ := hc i ns[i] (List.getElem?_eq_getElem hin)
        have hK' : c = [Value.string ns[i]] := hK
        subst hK'
        have := hcell 0 _ rfl
        have e1 : i * Kd.string.sz + 0 = i := by show i * 1 + 0 = i; omega
        rw [e1] at this
        exact ⟨ad, h1.trans had, this⟩
      subst hA2
      have HSN := Aside0.mk (nums_snoc ns i hin)
      have HFR := Aside0.mk (fun n => nums_fresh (n := n) HPW.out hin)
      have HSZ := Aside0.mk (HNM.out ns[i] (List.getElem_mem hin))
      generalize ns[i] = s at hcell HSN HFR HSZ
      clear hee hC hin
      go_wp2_with fail
      refine (seg_Number.calls s HSZ.out _ (HL.out.below HB.out)).mono ?_
      rintro e w3 ⟨⟨r, hr, rfl⟩, b3⟩
      have M3 := Aside0.mk (HM.out.frm (Frm.of_new (S := None') b3) (fun x => x))
      have R3 := Aside0.mk (Kd.R_below HR.out b3)
      have B3 := Aside0.mk (HB.out.trans (b3.mono HB.out.size))
      rw [segO_num hr]
      clear b3 hr HM HR HB hcell
      cases hnu : numL (L s) with
      | none =>
        have HE := Aside0.mk (show nums (ns.take (i + 1)) = nums (ns.take i) by rw [HSN.out, hnu, List.append_nil])
        clear hnu
        go_wp2_with fail
        go_roundw
        case rel => exact ⟨i + 1, by omega, by go_num, ⟨by rw [HE.out]; exact M3.out⟩, R3, B3⟩
        case measure => simp [intOf]; omega
      | some n =>
        have HE := Aside0.mk (show put (marks (nums (ns.take i))) (n : Int) true = marks (nums (ns.take (i + 1))) by rw [HSN.out, hnu]; exact marks_put (HFR.out n hnu))
        have HZ := Aside0.mk B3.out.size
        have HN9 := Aside0.mk (numL_some hnu).1
        clear hnu
        go_wp2_with (at_mapUpdate; refine wpList_mapUpdate_of intInj intKeyed _ rfl _ _ _ 127 4 rfl Tryz.underlying127 w.heap.size _ rfl M3.out (n : Int) rfl (intOk n HN9.out) true rfl ?_; intro w4 m4 f4 z4; rw [HE.out] at m4; have M4 := Aside0.mk m4; have R4 := Aside0.mk (Kd.R_step R3.out (fun k hk hlt => f4.block k hlt hk)); have B4 := Aside0.mk (B3.out.trans (Frm.below (B := w.heap.size) f4 B3.out.size (fun i _ e => by omega))); clear m4 f4 z4)
        go_roundw
        case rel => exact ⟨i + 1, by omega, by go_num, M4, R4, B4⟩
        case measure => simp [intOf]; omega
    · have d1 : decide ((i : Int) < (nl : Int)) = false := decide_eq_false (by omega)
      have HTK := Aside0.mk (show ns.take i = ns from List.take_of_length_le (by omega))
      have MM := Aside0.mk (show MapOf Tryz.prog 3 (Value.int .i64) Value.bool wr w.heap.size (marks (nums ns)) by have := HM.out; rwa [HTK.out] at this)
      have HNL := Aside0.mk (show (nums ns).length ≤ 1000000 by have := nums_len ns; omega)
      clear HM HR
      go_wp2_with (at_range; refine wpList_range_of _ rfl _ 127 4 rfl Tryz.underlying127 w.heap.size (marks (nums ns)) rfl MM.out ?_; intro w1 hi1 hf1 hz1)
      have HI := Aside0.mk hi1
      have HF := Aside0.mk (HB.out.trans (Frm.below (B := w.heap.size) hf1 HB.out.size (fun _ _ x => x.elim)))
      have HZ1 := Aside0.mk (show wr.heap.size ≤ w1.heap.size from hf1.size)
      have HWR := Aside0.mk HB.out.size
      clear hi1 hf1 hz1 HB MM HTK
      obtain ⟨it, hit⟩ : ∃ it, wr.heap.size = it := ⟨_, rfl⟩
      rw [hit] at HI HWR
      try rw [hit]
      have HIT := Aside0.mk (MapIt.lt HI.out)
      clear hit d1
      try go_wp2_with fail
      go_frame
      go_loopw [8] (fun v8 wv => ∃ (ys : List Int) (rest : List (Int × Bool)), Aside0 ((Kd.int .i64).R 3 wv w.heap.size (fun k => k ≠ w.heap.size ∧ k ≠ it) v8 ys) ∧ Aside0 ((ys ++ rest.map (·.1)).Perm ((marks (nums ns)).map (·.1))) ∧ Aside0 (MapIt Tryz.prog 3 (Value.int .i64) Value.bool wv it w.heap.size (marks (nums ns)) rest) ∧ Aside0 (Below w.heap.size w wv) ∧ Aside0 (it < wv.heap.size)) (fun _ wv => wv.rangeLeft w.heap.size it)
      case atStart => exact ⟨[], _, ⟨Kd.R_nil _ _ _ _ _⟩, ⟨List.Perm.refl _⟩, HI, HF, HIT⟩
      case round =>
        obtain ⟨ys, rest, HY, HP, HI, HF, HIT⟩ := hrel
        obtain ⟨A8, c8, rfl⟩ := Kd.R_slice HY.out
        have HYL := Aside0.mk (show ys.length ≤ 1000000 by
          have := HP.out.length_eq
          simp [marks] at this
          have := HNL.out
          omega)
        have hz := HF.out.size
        go_wp2_with (at_next; refine wpList_next_of _ rfl _ rfl _ _ _ _ rfl HI.out ?_ ?_)
        · intro h0
          subst h0
          have hp : ys.Perm ((nums ns).map fun n : Nat => (n : Int)) := by
            have := HP.out
            simpa [marks, Function.comp_def] using this
          have hsr := sort_rise hp (nums_rise HPW.out)
          have HSR := Aside0.mk hsr
          have hpl := hp.length_eq
          rw [List.length_map] at hpl
          have HPL := Aside0.mk hpl
          clear hp hsr hpl
          go_wp2_with fail
          by_cases hy0 : ys.length = 0
          · obtain rfl := List.eq_nil_of_length_eq_zero hy0
            refine (show Calls Tryz.prog 86 _ _ _ from AnyM.slices_Sort_int_none Tryz.sortInt A8 c8 _).mono ?_
            rintro e w5 ⟨rfl, rfl⟩
            go_wp2_with fail
            rw [Exit.noGoto_ret]
            go_ret
            refine ⟨_, rfl, ?_, HF.out⟩
            rw [← HSR.out]
            simpa using Kd.R_mono HY.out (fun _ _ => trivial)
          · obtain ⟨g, c, hv, hg, hb, hH, hS⟩ := R_ints_sorted (Kd.R_mono HY.out (fun _ _ => trivial)) (by omega)
            injection hv with hv1 _ hv3
            subst hv1 hv3
            refine (show Calls Tryz.prog 86 _ _ _ from AnyM.slices_Sort_int Tryz.sortInt g 0 c8 ys _ hH hg (by have := HYL.out; omega)).mono ?_
            rintro e w5 ⟨rfl, n5, os, rfl⟩
            rw [HSR.out]
            have HS5 := Aside0.mk (hS n5 os ((nums ns).map fun n : Nat => (n : Int)) (by rw [List.length_map]; exact HPL.out.symm))
            have HB5 := Aside0.mk (HF.out.grown (grownBy_sortedI (n := n5) (os := os) ((nums ns).map fun n : Nat => (n : Int)).toArray) HF.out.size (fun k e => by cases e; exact hb))
            clear hS hH
            generalize Go.Sort.grow (Go.Sort.putRow (Value.int .i64) (Go.Sort.ahead wr n5) g 0 ((nums ns).map fun n : Nat => (n : Int)).toArray) os = w6 at HS5 HB5 ⊢
            go_wp2_with fail
            rw [Exit.noGoto_ret]
            go_ret
            exact ⟨_, rfl, HS5.out, HB5.out⟩
        · intro l1 pk
          refine ⟨?_, ?_⟩
          all_goals
            intro l2 w3 h0 hi3 hf3 hz3 hen
            have HI3 := Aside0.mk hi3
            have HF3 := Aside0.mk (HF.out.trans (Frm.below (B := w.heap.size) hf3 hz (fun i _ e => by have := HWR.out; omega)))
            have HY3 := Aside0.mk (Kd.R_step HY.out (fun k hk hlt => hf3.block k hlt hk.2))
            have H0 := Aside0.mk h0
            have HI0 := Aside0.mk (show it < w3.heap.size by have := HIT.out; omega)
            have HZ := Aside0.mk (show wr.rangeLeft w.heap.size it = rest.length from HI.out.left_eq)
            clear hi3 hf3 hz3 h0
            go_wp2_with (at_builtin; refine Kd.R_append (Kd.int .i64) (w0 := w) w.heap.size rfl (.tmp 34) (.tmp 36) 44 3 (.int .i64 0) 8 rfl Tryz.underlying44 intinfo rfl (by decide) (by omega) (.slice A8 ys.length c8) ys pk [.int .i64 pk] (fun k => k ≠ w.heap.size ∧ k ≠ it) (fun _ => False) rfl rfl rfl (fun _ hk => hk.elim) (fun k hk => by have := HI0.out; have := HWR.out; omega) HY3.out HF3.out HF3.out.size (by have := HYL.out; omega) ?_; intro v1 w5 hR hB hg hat; obtain ⟨A1, c1, rfl⟩ := Kd.R_slice hR; have HR5 := Aside0.mk hR; have HB5 := Aside0.mk hB; have HG5 := Aside0.mk hg; clear hR hB hg hat)
            have HPN := Aside0.mk (show ((ys ++ [pk]) ++ (l1 ++ l2).map (·.1)).Perm ((marks (nums ns)).map (·.1)) from by
              refine List.Perm.trans ?_ HP.out
              rw [H0.out, List.append_assoc]
              refine List.Perm.append_left _ ?_
              simp only [List.map_append, List.map_cons, List.singleton_append]
              exact List.perm_middle.symm)
            have HI5 := Aside0.mk (show MapIt Tryz.prog 3 (Value.int .i64) Value.bool w5 it w.heap.size (marks (nums ns)) (l1 ++ l2) from
              HI3.out.frm (S := fun k => (Value.slice A8 ys.length c8).ownBlock = some k) ⟨HG5.out.os, HG5.out.tape, HG5.out.output, HG5.out.size, fun k hk hn => HG5.out.block k hk (fun e => hn e.symm)⟩ (fun e => (HY3.out.1 _ e).1 rfl) (fun e => (HY3.out.1 _ e).2 rfl))
            refine ⟨⟨ys ++ [pk], l1 ++ l2, ⟨by have h := HR5.out; rw [List.length_append] at h; exact h⟩, HPN, HI5, HB5, ⟨by have := HG5.out.size; have := HI0.out; omega⟩⟩, ?_⟩
            rw [HI5.out.left_eq, HZ.out, H0.out]
            simp
end Go.Proofs.YthndpknocofioaaGreatDoor.Thw
/-! ## Layer 8 (segment): what its functions come to on a disk of a segment's file and, maybe, its hints. No walk in sight. -/
namespace Go.Proofs.YthndpknocofioaaGreatDoor.Thw
open Go Go.RowKit Go.Maps Go.Proofs.YthndpknocofioaaGreatDoor.Print Go.Proofs.YthndpknocofioaaGreatDoorW.PrintWords Go.Proofs.YthndpknocofioaaGreatDoorW.PrintLast Go.Proofs.YthndpknocofioaaGreatDoorW.PrintMore
set_option linter.unusedVariables false
set_option linter.unusedSimpArgs false
def dkR (R : Int) (m : Fls) : Dsk := ⟨R, m, -1, false⟩
theorem dkR_burn (R : Int) (m : Fls) : (dkR R m).burn = (dkR R m, 0) := by
  have : mx (wrap64 (-2)) (-1) = -1 := by kernel_rfl
  simp [Dsk.burn, dkR, this]
/-- One file of a name, or none. -/
def OneK (k : ByteArray) (m : Fls) (full : ByteArray) (s : Int) : Prop := (m = [] ∧ full = ⟨#[]⟩ ∧ s = 0) ∨ m = [(k, ⟨full, s⟩)]
section
variable {R : Int} {k : ByteArray} {m : Fls} {full : ByteArray} {s : Int}
theorem OneK.total (h : OneK k m full s) : total m = full.size := by
  rcases h with ⟨rfl, rfl, _⟩ | rfl
  · rfl
  · simp [Thw.total]
theorem OneK.file (h : OneK k m full s) : (dkR R m).fileOf k = ⟨full, s⟩ := by
  rcases h with ⟨rfl, rfl, rfl⟩ | rfl
  · rfl
  · simp [Dsk.fileOf, dkR, look]
theorem OneK.size (h : OneK k m full s) : ((dkR R m).size k).1 = full.size := by
  rcases h with ⟨rfl, rfl, rfl⟩ | rfl
  · rfl
  · simp [Dsk.size, dkR, look]
theorem OneK.put (h : OneK k m full s) (f : DFile) : put m k f = [(k, f)] := by
  rcases h with ⟨rfl, rfl, rfl⟩ | rfl
  · rfl
  · simp [Thw.put]
theorem left_of (hR : 0 ≤ R ∧ R ≤ 1048576) (h0 : 0 ≤ Thw.total m) (h1 : Thw.total m ≤ R) : (dkR R m).left = R - Thw.total m := by
  unfold Dsk.left
  rw [show (dkR R m).m = m from rfl, show (dkR R m).room = R from rfl]
  unfold wrap64; omega
theorem OneK.append (h : OneK k m full s) (hk : right k = true) (hR : 0 ≤ R ∧ R ≤ 1048576) (x : ByteArray) (hs : (full.size : Int) + x.size ≤ R) : (dkR R m).append k x = (dkR R [(k, ⟨full ++ x, s⟩)], 0) := by
  have hl := left_of (m := m) hR (by rw [h.total]; omega) (by rw [h.total]; omega)
  rw [h.total] at hl
  unfold Dsk.append
  rw [hk, if_neg (by decide), dkR_burn, if_neg (by simp)]
  simp only
  rw [hl, if_neg (by omega), h.file, show (dkR R m).m = m from rfl, h.put]
  rfl
end
section
variable {R : Int} {k k2 : ByteArray} {f g : DFile}
theorem append_two (hne : k ≠ k2) (hk : right k2 = true) (hR : 0 ≤ R ∧ R ≤ 1048576) (x : ByteArray) (hs : (f.b.size : Int) + x.size ≤ R) : (dkR R [(k, f)]).append k2 x = (dkR R [(k, f), (k2, ⟨x, 0⟩)], 0) := by
  have ht : Thw.total [(k, f)] = f.b.size := by simp [Thw.total]
  have hl := left_of (m := [(k, f)]) hR (by rw [ht]; omega) (by rw [ht]; omega)
  rw [ht] at hl
  unfold Dsk.append
  rw [hk, if_neg (by decide), dkR_burn, if_neg (by simp)]
  simp only
  rw [hl, if_neg (by omega)]
  have hf : (dkR R [(k, f)]).fileOf k2 = ⟨⟨#[]⟩, 0⟩ := by simp [Dsk.fileOf, dkR, look, hne]
  rw [hf]
  have e0 : (⟨#[]⟩ : ByteArray) ++ x = x := by apply ByteArray.ext; simp
  simp [dkR, put, hne, e0]
theorem sync_two (hne : k ≠ k2) : (dkR R [(k, f), (k2, g)]).sync k2 = (dkR R [(k, f), (k2, ⟨g.b, g.b.size⟩)], 0) := by
  have hl : look (dkR R [(k, f), (k2, g)]).m k2 = some g := by simp [dkR, look, hne]
  unfold Dsk.sync Dsk.change
  rw [hl]
  simp only [if_true]
  rw [dkR_burn]
  simp [updSync, dkR, put, hne]
theorem remove_two (hne : k ≠ k2) : (dkR R [(k, f), (k2, g)]).remove k2 = (dkR R [(k, f)], 0) := by
  have hl : look (dkR R [(k, f), (k2, g)]).m k2 = some g := by simp [dkR, look, hne]
  unfold Dsk.remove Dsk.change
  rw [hl]
  simp only [if_true]
  rw [dkR_burn]
  simp [updRemove, dkR, del, hne]
theorem cut_one (n : Nat) (hn : n ≤ f.b.size) : (dkR R [(k, f)]).cut k (n : Int) = (dkR R [(k, ⟨f.b.extract 0 n, mn f.sure n⟩)], 0) := by
  have hl : look (dkR R [(k, f)]).m k = some f := by simp [dkR, look]
  have hm : (dkR R [(k, f)]).mayCut k (n : Int) = true := by
    unfold Dsk.mayCut Dsk.sizeOf
    rw [hl]
    simp
    omega
  unfold Dsk.cut Dsk.change
  rw [hl, hm]
  simp only [if_true]
  rw [dkR_burn]
  simp [updCut, dkR, put]
theorem crash_one (kept : List Int) : (dkR R [(k, f)]).crash kept = dkR R [(k, crashF kept 0 f)] := by
  have hn : names [(k, f)] = [k] := by
    have := (sorted_perm' [k])
    unfold names
    simpa using this
  unfold Dsk.crash
  rw [show (dkR R [(k, f)]).m = [(k, f)] from rfl, hn]
  simp [crashM, fileIn, look, put, dkR]
end
section
variable {R : Int} {n : Int} {m : Fls} {s : Int}
/-- A batch is written behind batches. -/
theorem write_frames {ls : List (List Rec)} {l : List Rec} (hr : rightN n = true) (hk : right (sgN n) = true) (hR : 0 ≤ R ∧ R ≤ 1048576) (h : OneK (sgN n) m (B (framesS ls)) s) (hl : (frameS l).2 = 0) (hs : ((framesS ls).length : Int) + ((frameS l).1.length : Int) ≤ R) :
    segWrite (dkR R m) n l = (dkR R [(sgN n, ⟨B (framesS (ls ++ [l])), s⟩)], ofL (framesS ls).length [l], 0) := by
  have ha := h.append hk hR (B (frameS l).1) (by rw [B_size, B_size]; exact hs)
  have e : B (framesS ls) ++ B (frameS l).1 = B (framesS (ls ++ [l])) := by rw [framesS_append, framesS_one]; exact L_inj (by simp [L, B])
  rw [e] at ha
  unfold segWrite
  rw [if_pos hr, if_pos hl, ha, if_pos rfl, h.size, B_size]
  have h1 := ofP_frames [l] (by intro x hx; rw [List.mem_singleton.1 hx]; exact hl)
  rw [framesS_one] at h1
  have h2 : ofS (frameS l).1 = (ofL 0 [l], (frameS l).1.length) := h1
  rw [h2]
  have h3 := shift_of [l] 0 (framesS ls).length (by intro x hx; rw [List.mem_singleton.1 hx]; exact hl)
  rw [Nat.zero_add] at h3
  show (_, List.map (shiftE ((framesS ls).length : Int)) (ofL 0 [l]), (0 : Int)) = _
  rw [h3]
theorem bytes_of {st : Dsk} {k : ByteArray} {f : DFile} (h : look st.m k = some f) : st.bytes k = (f.b, 0) := by unfold Dsk.bytes; rw [h]
theorem load_whole {st : Dsk} {ls : List (List Rec)} {s : Int} (hr : rightN n = true) (hf : look st.m (sgN n) = some ⟨B (framesS ls), s⟩) (h : ∀ l ∈ ls, (frameS l).2 = 0) : segLoad st n = (st, ofL 0 ls, 0) := by
  have h2 : ofS (framesS ls) = (ofL 0 ls, (framesS ls).length) := ofP_frames ls h
  unfold segLoad
  rw [if_pos hr, bytes_of hf, if_pos rfl]
  simp only [L_B]
  rw [h2, if_neg (by simp only; rw [B_size]; omega)]
theorem load_cut {ls : List (List Rec)} {c : Nat} {s : Int} (hr : rightN n = true) (h : ∀ l ∈ ls, (frameS l).2 = 0) :
    ∃ s', segLoad (dkR R [(sgN n, ⟨B ((framesS ls).take c), s⟩)]) n = (dkR R [(sgN n, ⟨B (framesS (ls.take (wholeS ls c))), s'⟩)], ofL 0 (ls.take (wholeS ls c)), 0) := by
  have h2 : ofS ((framesS ls).take c) = (ofL 0 (ls.take (wholeS ls c)), (framesS (ls.take (wholeS ls c))).length) := ofP_cut ls c h
  have hl : look (dkR R [(sgN n, (⟨B ((framesS ls).take c), s⟩ : DFile))]).m (sgN n) = some ⟨B ((framesS ls).take c), s⟩ := by simp [dkR, look]
  have hfit := wholeS_fits ls c
  have htk : ((framesS ls).take c).take (framesS (ls.take (wholeS ls c))).length = framesS (ls.take (wholeS ls c)) := by
    rw [List.take_take, Nat.min_eq_left hfit, take_whole]
  have hlen : (framesS (ls.take (wholeS ls c))).length ≤ ((framesS ls).take c).length := by
    have := congrArg List.length htk
    rw [List.length_take] at this
    omega
  unfold segLoad
  rw [if_pos hr, bytes_of hl, if_pos rfl]
  simp only [L_B]
  rw [h2]
  simp only
  by_cases hlt : (framesS (ls.take (wholeS ls c))).length < (B ((framesS ls).take c)).size
  · rw [if_pos hlt, cut_one _ (by simp only; omega), if_pos rfl]
    refine ⟨mn s ((framesS (ls.take (wholeS ls c))).length : Int), ?_⟩
    have e : (B ((framesS ls).take c)).extract 0 (framesS (ls.take (wholeS ls c))).length = B (framesS (ls.take (wholeS ls c))) := L_inj (by rw [L_extract_front, L_B, L_B, htk])
    simp only
    rw [e]
  · rw [if_neg hlt]
    refine ⟨s, ?_⟩
    have e : (framesS ls).take c = framesS (ls.take (wholeS ls c)) := by
      refine Eq.trans (List.take_of_length_le ?_).symm htk
      rw [B_size] at hlt
      omega
    rw [e]
theorem get_at {st : Dsk} {ls : List (List Rec)} {s : Int} (hr : rightN n = true) (hf : look st.m (sgN n) = some ⟨B (framesS ls), s⟩) (h : ∀ l ∈ ls, (frameS l).2 = 0) (hs : (framesS ls).length ≤ 1048576) (i : Nat) (hi : i < (ofL 0 ls).length) (hi' : i < ls.flatten.length) : segGet st n (ofL 0 ls)[i] = (ls.flatten[i], 0) := by
  unfold segGet
  rw [if_pos hr, bytes_of hf, if_pos rfl, L_B]
  exact each_get ls h hs i hi hi'
theorem hint_new {f : DFile} {l : List Ent} (hr : rightN n = true) (hne : sgN n ≠ sgH n) (hk : right (sgH n) = true) (hR : 0 ≤ R ∧ R ≤ 1048576) (hb : (bytesE l).2 = 0) (hs : (f.b.size : Int) + ((bytesE l).1.length : Int) ≤ R) :
    segHint (dkR R [(sgN n, f)]) n l = (dkR R [(sgN n, f), (sgH n, ⟨B (bytesE l).1, ((B (bytesE l).1).size : Nat)⟩)], 0) := by
  have hz : ((dkR R [(sgN n, f)]).size (sgH n)).2 = 5 := by simp [Dsk.size, dkR, look, hne]
  unfold segHint
  rw [if_pos hr, if_pos hb, hz, if_neg (by decide)]
  unfold segLay
  rw [append_two hne hk hR _ (by rw [B_size]; exact hs), if_pos rfl, sync_two hne]
theorem told_of {st : Dsk} {l : List Ent} {s : Int} (hr : rightN n = true) (hf : look st.m (sgH n) = some ⟨B (bytesE l).1, s⟩) (h : readE (bytesE l).1 = (l, 0)) : segTold st n = (l, 0) := by
  unfold segTold
  rw [if_pos hr, bytes_of hf, if_pos rfl, L_B, h]
end
end Go.Proofs.YthndpknocofioaaGreatDoor.Thw
/-! ## Layer 8 (segment): the law's own 'awake'. -/
namespace Go.Proofs.YthndpknocofioaaGreatDoor.Thw
open Go Go.RowKit Go.Maps Go.Proofs.YthndpknocofioaaGreatDoor.Print Go.Proofs.YthndpknocofioaaGreatDoorW.PrintWords Go.Proofs.YthndpknocofioaaGreatDoorW.PrintLast Go.Proofs.YthndpknocofioaaGreatDoorW.PrintMore
set_option linter.unusedVariables false
set_option linter.unusedSimpArgs false
def r0 : Rec := ⟨3, [107], [118], false⟩
theorem fr0 : (frameS [r0]).2 = 0 := by decide
theorem ok0 : ∀ l ∈ [[r0]], (frameS l).2 = 0 := fun l hl => by rw [List.mem_singleton.1 hl]; exact fr0
theorem frame_len {l : List Rec} (h : (frameS l).2 = 0) : (frameS l).1.length ≤ 14 + 380 * l.length := by
  obtain ⟨h1, h2, h3⟩ := frameS_ok h
  rw [h3]
  have h4 := textS_length (sealS (allS l).1)
  have h5 := allS_length l
  rw [sealS_length] at h4
  simp only
  omega
theorem sm_of {R : Int} {N : Nat} {m : Fls} (hN : N ≤ 1000000) (hR : 0 ≤ R ∧ R ≤ 1048576) (h : ∀ p ∈ m, p.2.b.size ≤ N) : (dkR R m).Sm N :=
  ⟨hN, hR, fun k f hk => by obtain ⟨p, hp, rfl⟩ := mem_look hk; exact h p hp⟩
theorem nums_two {k k2 : ByteArray} {f g : DFile} {n : Nat} (h1 : numL (L k) = some n) (h2 : numL (L k2) = none) : nums (names [(k, f), (k2, g)]) = [n] := by
  have hp : (names [(k, f), (k2, g)]).Perm [k, k2] := by unfold names; exact sorted_perm' _
  have h3 : (nums (names [(k, f), (k2, g)])).Perm [n] := by
    unfold nums
    refine (hp.filterMap _).trans ?_
    simp [h1, h2]
  exact List.perm_singleton.1 h3
theorem hints_num (n : Nat) (hn : n ≤ 999999) : numL (L (sgH (n : Int))) = none := by
  cases h : numL (L (sgH (n : Int))) with
  | none => rfl
  | some m =>
    have h1 := (numL_some h).2
    unfold sgH nameB nameL at h1
    rw [if_neg (by omega), L_B] at h1
    injection h1 with h1
    exact absurd h1 (by decide)
theorem name_num (n : Nat) (hn : n ≤ 999999) : numL (L (sgN (n : Int))) = some n := by
  refine numL_of ⟨hn, ?_⟩
  unfold sgN nameB nameL
  rw [if_neg (by omega), L_B, Int.toNat_natCast]
theorem names_small {m : Fls} (h : ∀ p ∈ m, p.1.size ≤ 1000000) : ∀ s ∈ names m, s.size ≤ 1000000 := fun s hs => by
  unfold names at hs
  have := (sorted_perm' (m.map fun x => x.1)).mem_iff.1 hs
  obtain ⟨p, hp, rfl⟩ := List.mem_map.1 this
  exact h p hp
theorem right_name (c : UInt8) (n : Nat) (hn : n ≤ 999999) : right (nameB c (n : Int) 0) = true := by
  unfold right nameB nameL
  rw [if_neg (by omega)]
  have hz : (B (c :: six (n : Int).toNat)).size = 7 := by rw [B_size, List.length_cons, six_length]
  have hl : (B (c :: six (n : Int).toNat)).toList = c :: six (n : Int).toNat := by rw [Lib.toList_data]; exact L_B _
  rw [hz, hl]
  rfl
theorem awake_facts : ∃ st1 st2 e0, segWrite (Dsk.new 1000) 7 [r0] = (st1, [e0], 0) ∧ st1.Sm 8000 ∧ segGet st1 7 e0 = (r0, 0) ∧ segSeal st1 7 = (st2, 0) ∧ st2.Sm 8000 ∧ segIndex st2 7 = (st2, [e0], 0) ∧
    (nums (names st2.m)).length = 1 ∧ st2.m.length ≤ 1000000 ∧ ∀ s ∈ names st2.m, s.size ≤ 1000000 := by
  have hr : rightN 7 = true := by decide
  have hk : right (sgN 7) = true := right_name 115 7 (by decide)
  have hk2 : right (sgH 7) = true := right_name 104 7 (by decide)
  have hne : sgN 7 ≠ sgH 7 := by decide
  have hR : (0 : Int) ≤ 1000 ∧ (1000 : Int) ≤ 1048576 := by decide
  have hfl := frame_len fr0
  simp only [List.length_singleton] at hfl
  have hfs : (framesS [[r0]]).length ≤ 394 := by rw [framesS_one]; omega
  have hw : segWrite (dkR 1000 []) 7 [r0] = (dkR 1000 [(sgN 7, ⟨B (framesS [[r0]]), 0⟩)], ofL 0 [[r0]], 0) :=
    write_frames (ls := []) (s := 0) hr hk hR (Or.inl ⟨rfl, rfl, rfl⟩) fr0 (by simp [framesS]; omega)
  have hlen : (ofL 0 [[r0]]).length = 1 := by rw [ofL_length]; rfl
  obtain ⟨e0, he0⟩ := List.length_eq_one_iff.1 hlen
  have hl1 : look (dkR 1000 [(sgN 7, (⟨B (framesS [[r0]]), 0⟩ : DFile))]).m (sgN 7) = some ⟨B (framesS [[r0]]), 0⟩ := by simp [dkR, look]
  have hg := get_at (st := dkR 1000 [(sgN 7, ⟨B (framesS [[r0]]), 0⟩)]) hr hl1 ok0 (by omega) 0 (by rw [hlen]; decide) (by decide)
  have hlo := load_whole (st := dkR 1000 [(sgN 7, ⟨B (framesS [[r0]]), 0⟩)]) hr hl1 ok0
  obtain ⟨hb0, hrd⟩ := hints_back [[r0]] ok0 (by omega) (by decide)
  have hbl := bytesE_length (ofL 0 [[r0]])
  rw [hlen] at hbl
  have hh := hint_new (R := 1000) (f := ⟨B (framesS [[r0]]), 0⟩) (l := ofL 0 [[r0]]) hr hne hk2 hR hb0 (by simp only [B_size]; omega)
  have hl2 : look (dkR 1000 [(sgN 7, (⟨B (framesS [[r0]]), 0⟩ : DFile)), (sgH 7, ⟨B (bytesE (ofL 0 [[r0]])).1, ((B (bytesE (ofL 0 [[r0]])).1).size : Nat)⟩)]).m (sgH 7) = some ⟨B (bytesE (ofL 0 [[r0]])).1, ((B (bytesE (ofL 0 [[r0]])).1).size : Nat)⟩ := by simp [dkR, look, hne]
  have ht := told_of hr hl2 hrd
  refine ⟨dkR 1000 [(sgN 7, ⟨B (framesS [[r0]]), 0⟩)], dkR 1000 [(sgN 7, ⟨B (framesS [[r0]]), 0⟩), (sgH 7, ⟨B (bytesE (ofL 0 [[r0]])).1, ((B (bytesE (ofL 0 [[r0]])).1).size : Nat)⟩)], e0, by rw [← he0]; exact hw, ?_, ?_, ?_, ?_, ?_, ?_, ?_, ?_⟩
  · refine sm_of (by decide) hR fun p hp => ?_
    rw [List.mem_singleton.1 hp]
    simp only [B_size]; omega
  · have : (ofL 0 [[r0]])[0]'(by rw [hlen]; decide) = e0 := by simp [he0]
    rw [this] at hg
    exact hg
  · unfold segSeal
    rw [hlo, if_pos rfl]
    exact hh
  · refine sm_of (by decide) hR fun p hp => ?_
    rcases List.mem_cons.1 hp with rfl | hp
    · simp only [B_size]; omega
    · rw [List.mem_singleton.1 hp]
      simp only [B_size]; omega
  · unfold segIndex
    rw [ht, if_pos (Or.inl rfl), he0]
  · show (nums (names [(sgN 7, _), (sgH 7, _)])).length = 1
    exact congrArg List.length (nums_two (n := 7) (name_num 7 (by decide)) (hints_num 7 (by decide)))
  · show ([_, _] : List (ByteArray × DFile)).length ≤ 1000000
    decide
  · refine names_small fun p hp => ?_
    rcases List.mem_cons.1 hp with rfl | hp
    · have := nameB_size 115 7 0; show (nameB 115 7 0).size ≤ _; omega
    · rw [List.mem_singleton.1 hp]
      have := nameB_size 104 7 0; show (nameB 104 7 0).size ≤ _; omega
abbrev kR := k50
theorem rec_C {w : World} {g : Nat} {x : SR} {t : TypeId} (h : w.heap[g]? = some (.cells #[.int .u64 x.f0, .string x.f1, .string x.f2, .bool x.f3] t)) : Kd.C kR w (some ⟨g, 0, none⟩) 1 [x] := by
  obtain ⟨c0, c1, c2, c3, _⟩ := cells4f h
  refine ⟨rfl, by decide, fun _ => ⟨⟨g, 0, none⟩, rfl, fun j p hj => ?_⟩⟩
  match j, hj with
  | 0, hj =>
    have : x = p := by simpa using hj
    subst this
    refine ⟨_, rfl, k50_mk w x, fun i u hi => ?_⟩
    have e : ((⟨g, 0, none⟩ : Addr).add (0 * 4 + i)) = ⟨g, i, none⟩ := by
      unfold Addr.add
      simp
      intro h
      exact h.symm
    show w.cell? ((⟨g, 0, none⟩ : Addr).add (0 * 4 + i)) = some u
    rw [e]
    match i, hi with
    | 0, hi => injection hi with hi; rw [← hi]; exact c0
    | 1, hi => injection hi with hi; rw [← hi]; exact c1
    | 2, hi => injection hi with hi; rw [← hi]; exact c2
    | 3, hi => injection hi with hi; rw [← hi]; exact c3
  | j + 1, hj => simp at hj
/-- What a disk whose blocks lie behind B does, leaves what is laid. -/
theorem LaidW.frm {w0 w : World} {A : Nat → Prop} (h : LaidW w0) (hb : Below w0.heap.size w0 w) (hA : ∀ k, A k → w0.heap.size ≤ k) : ∀ W, Frm A w W → LaidW W :=
  fun W hf => h.below (hb.trans (Frm.below (B := w0.heap.size) hf hb.size (fun i hi ha => by have := hA i ha; omega)))
theorem frm_below {w0 w W : World} {A : Nat → Prop} (hb : Below w0.heap.size w0 w) (hA : ∀ k, A k → w0.heap.size ≤ k) (hf : Frm A w W) : Below w0.heap.size w0 W :=
  hb.trans (Frm.below (B := w0.heap.size) hf hb.size (fun i hi ha => by have := hA i ha; omega))
/-- The one entry of a row. -/
structure EntC (w : World) (g : Nat) (e : Ent) : Prop where
  c0 : w.cell? ⟨g, 0, none⟩ = some (.string (B e.key))
  c1 : w.cell? ⟨g, 1, none⟩ = some (.int .i64 e.off)
  c2 : w.cell? ⟨g, 2, none⟩ = some (.int .i64 e.len)
  c3 : w.cell? ⟨g, 3, none⟩ = some (.int .u64 (e.seq : Int))
  c4 : w.cell? ⟨g, 4, none⟩ = some (.bool e.gone)
theorem one_ent {w : World} {base : Nat} {ok : Nat → Prop} {v : Value} {e : Ent} (h : Kd.R kE 52 w base ok v ([e].map ES)) : ∃ g c, v = .slice (some ⟨g, 0, none⟩) 1 c ∧ base ≤ g ∧ ok g ∧ g < w.heap.size ∧ EntC w g e := by
  obtain ⟨A, c, rfl, hc, hC⟩ := Kd.R_reads h
  obtain ⟨g, rfl⟩ := R_some h (by simp)
  obtain ⟨o1, o2, o3, _⟩ := R_off h 0 (by simp)
  obtain ⟨ad, hh, k0, k1, k2, k3, k4⟩ := at_T52 hC 0 (by omega) (by simp)
  cases hh
  have hrd : rd_T52 ([e].map ES) 0 = ES e := rfl
  rw [hrd] at k0 k1 k2 k3 k4
  have e0 : ((⟨g, 0, none⟩ : Addr).add ((0 : Int).toNat * 5)) = ⟨g, 0, none⟩ := by simp [Addr.add]
  rw [e0] at k0 k1 k2 k3 k4
  exact ⟨g, c, rfl, o1, o2, o3, ⟨k0, k1, k2, k3, k4⟩⟩
end Go.Proofs.YthndpknocofioaaGreatDoor.Thw
/-! ## Layer 8 (segment): the walk of 'awake'. -/
namespace Go.Proofs.YthndpknocofioaaGreatDoor.Thw
open Go Go.RowKit Go.Maps Go.Proofs.YthndpknocofioaaGreatDoor.Print Go.Proofs.YthndpknocofioaaGreatDoorW.PrintWords Go.Proofs.YthndpknocofioaaGreatDoorW.PrintLast Go.Proofs.YthndpknocofioaaGreatDoorW.PrintMore
set_option linter.unusedVariables false
set_option linter.unusedSimpArgs false
theorem EntC.keep {w w' : World} {g : Nat} {e : Ent} (h : EntC w g e) (hb : w'.heap[g]? = w.heap[g]?) : EntC w' g e :=
  ⟨(World.cell?_of_block (a := ⟨g, 0, none⟩) hb).trans h.c0, (World.cell?_of_block (a := ⟨g, 1, none⟩) hb).trans h.c1, (World.cell?_of_block (a := ⟨g, 2, none⟩) hb).trans h.c2, (World.cell?_of_block (a := ⟨g, 3, none⟩) hb).trans h.c3, (World.cell?_of_block (a := ⟨g, 4, none⟩) hb).trans h.c4⟩
theorem heq_rec (a : Int) (b c : ByteArray) (d : Bool) (w : World) : (binOp BinOp.eql 50 (.agg #[.int .u64 a, .string b, .string c, .bool d]) (.agg #[.int .u64 a, .string b, .string c, .bool d])).run Tryz.prog w = .ok (.bool true) w := by
  simp [binOp, Op.equal, Op.maxDepth, eqA50 9998 w]
theorem heq_ent (k : ByteArray) (a b c : Int) (d : Bool) (w : World) : (binOp BinOp.eql 52 (.agg #[.string k, .int .i64 a, .int .i64 b, .int .u64 c, .bool d]) (.agg #[.string k, .int .i64 a, .int .i64 b, .int .u64 c, .bool d])).run Tryz.prog w = .ok (.bool true) w := by
  simp [binOp, Op.equal, Op.maxDepth, eqA52 9998 w]
abbrev recS0 : Obj := .cells #[.int .u64 3, .string ⟨#[107]⟩, .string ⟨#[118]⟩, .bool false] 50
set_option maxHeartbeats 12800000 in
set_option maxRecDepth 100000 in
theorem awake08.calls (w : World) (hL : LaidW w) : Calls Tryz.prog 7 #[] w fun e w' => e = .returned (.bool true) ∧ Below w.heap.size w w' := by
  obtain ⟨st1, st2, e0, hw0, hs1, hg0, hse, hs2, hi0, hnu, hln, hns⟩ := awake_facts
  have HL := Aside0.mk hL
  have HW0 := Aside0.mk hw0
  have HS1 := Aside0.mk hs1
  have HG0 := Aside0.mk hg0
  have HSE := Aside0.mk hse
  have HS2 := Aside0.mk hs2
  have HI0 := Aside0.mk hi0
  have HNU := Aside0.mk hnu
  have HLN := Aside0.mk hln
  have HNS := Aside0.mk hns
  clear hL hw0 hs1 hg0 hse hs2 hi0 hnu hln hns
  go_enter Tryz.func7, Tryz.ntmps7
  go_wp2_with fail
  refine (disk_New.calls 1000 _).mono ?_
  rintro e w1 (⟨hh, _⟩ | ⟨_, d, rfl, h1, b1⟩)
  · omega
  have D1 := Aside0.mk h1.bound
  have B1 := Aside0.mk b1
  clear h1 b1
  go_wp2_with fail
  obtain ⟨w2, hw2⟩ : ∃ w2, (w1.alloc recS0).alloc recS0 = w2 := ⟨_, rfl⟩
  have X3 := Aside0.mk (show w2.heap[w1.heap.size]? = some recS0 by rw [← hw2]; exact blk_alloc (blk_new _ _) _)
  have X4 := Aside0.mk (show w2.heap[w1.heap.size + 1]? = some recS0 by
    rw [← hw2]
    have := blk_new (w1.alloc recS0) recS0
    simpa using this)
  have D2 := Aside0.mk (show DskAt w2 (fun k => w.heap.size ≤ k ∧ k < w1.heap.size) d (Dsk.new 1000) by rw [← hw2]; exact (D1.out.alloc _).alloc _)
  have B2 := Aside0.mk (show Below w.heap.size w w2 by rw [← hw2]; exact (B1.out.alloc B1.out.size _).alloc (by have := B1.out.size; simp; omega) _)
  have Z2 := Aside0.mk (show w1.heap.size + 2 = w2.heap.size by rw [← hw2]; simp)
  have Z1 := Aside0.mk B1.out.size
  rw [hw2]
  clear hw2 D1 B1
  obtain ⟨b3, hb3⟩ : ∃ b, w1.heap.size = b := ⟨_, rfl⟩
  rw [hb3] at X3 X4 D2 Z2 Z1 ⊢
  clear hb3
  refine (seg_Write.calls w2 (fun k => w.heap.size ≤ k ∧ k < b3) d (Dsk.new 1000) (N := 0) D2.out (fun k hk => by have := Z2.out; omega) (sm_of (m := []) (by decide) (by decide) (fun p hp => by cases hp)) 7 (by decide) (HL.out.below B2.out) (some ⟨b3 + 1, 0, none⟩) 1 [r0] [RS r0] rfl (rec_C (x := RS r0) X4.out) (by decide) (HL.out.frm B2.out (fun k hk => hk.1))).mono ?_
  rintro e w3 ⟨v, T, he, h3, hT, hR, f3⟩
  rw [HW0.out] at he h3 hR
  obtain ⟨g, c, rfl, g1, g2, g3, hE⟩ := one_ent hR
  have he' : e = .returned (.tuple #[.slice (some ⟨g, 0, none⟩) 1 c, .int .i64 0]) := he
  subst he'
  have H3 := Aside0.mk (show DskAt w3 T d st1 from h3)
  have B3 := Aside0.mk (frm_below B2.out (fun k hk => hk.1) f3)
  have HT := Aside0.mk (show ∀ k, T k → w.heap.size ≤ k ∧ k < w3.heap.size ∧ k ≠ b3 from fun k hk => ⟨by rcases (hT k hk).1 with h | h; exact h.1; have := B2.out.size; omega, (hT k hk).2, by rcases (hT k hk).1 with h | h; omega; have := Z2.out; omega⟩)
  have X3' := Aside0.mk (f3.keeps X3.out (fun hk => by omega))
  have HE := Aside0.mk hE
  have HG := Aside0.mk (And.intro g2 g3)
  clear he h3 hT hR f3 g1 g2 g3 X3 X4 D2
  obtain ⟨c0, c1, c2, c3, c4⟩ := hE
  go_wp2_with fail
  refine (seg_Get.calls w3 T d st1 H3.out HS1.out 7 (by decide) (HL.out.below B3.out) e0).mono ?_
  rintro e w4 ⟨he, b4⟩
  rw [HG0.out] at he
  have he' : e = .returned (.tuple #[.agg #[.int .u64 3, .string ⟨#[107]⟩, .string ⟨#[118]⟩, .bool false], .int .i64 0]) := he
  subst he'
  have H4 := Aside0.mk (H3.out.below b4)
  have B4 := Aside0.mk (B3.out.trans (b4.mono B3.out.size))
  have X34 := Aside0.mk (blk_below X3'.out b4)
  have HE4 := Aside0.mk (HE.out.keep (b4.block g HG.out.2))
  have Z4 := Aside0.mk b4.size
  clear he b4 c0 c1 c2 c3 c4 X3' HE H3 B3
  go_wp2_with fail
  obtain ⟨w5, hw5⟩ : ∃ w5, w4.alloc recS0 = w5 := ⟨_, rfl⟩
  have X65 := Aside0.mk (show w5.heap[w4.heap.size]? = some recS0 by rw [← hw5]; exact blk_new _ _)
  have X35 := Aside0.mk (show w5.heap[b3]? = some recS0 by rw [← hw5]; exact blk_alloc X34.out _)
  have H5 := Aside0.mk (show DskAt w5 T d st1 by rw [← hw5]; exact H4.out.alloc _)
  have B5 := Aside0.mk (show Below w.heap.size w w5 by rw [← hw5]; exact B4.out.alloc B4.out.size _)
  have HE5 := Aside0.mk (show EntC w5 g e0 from HE4.out.keep (by rw [← hw5]; exact (below_alloc (Below.refl _ _) _ : Below w4.heap.size w4 (w4.alloc recS0)).block g (Nat.lt_of_lt_of_le HG.out.2 Z4.out)))
  have Z5 := Aside0.mk (show w4.heap.size + 1 = w5.heap.size by rw [← hw5]; simp)
  have ZW := Aside0.mk B5.out.size
  have Z35 := Aside0.mk (lt_of_block X35.out)
  rw [hw5]
  obtain ⟨b6, hb6⟩ : ∃ b, w4.heap.size = b := ⟨_, rfl⟩
  rw [hb6] at X65 Z5 Z4 ⊢
  clear hw5 hb6 H4 B4 X34 HE4
  refine (seg_Seal.calls w5 T d st1 H5.out (fun k hk => by have := HT.out k hk; have := Z4.out; have := Z5.out; omega) HS1.out 7 (by decide) (HL.out.frm B5.out (fun k hk => (HT.out k hk).1))).mono ?_
  rintro e w6 ⟨he, h6, f6⟩
  rw [HSE.out] at he h6
  have he' : e = .returned (.int .i64 0) := he
  subst he'
  have H6 := Aside0.mk (show DskAt w6 (fun k => gr T w5 k ∧ k < w6.heap.size) d st2 from h6)
  have B6 := Aside0.mk (frm_below B5.out (fun k hk => (HT.out k hk).1) f6)
  have X66 := Aside0.mk (f6.keeps X65.out (fun hk => by have := (HT.out _ hk).2.1; have := Z4.out; omega))
  have X36 := Aside0.mk (f6.keeps X35.out (fun hk => (HT.out _ hk).2.2 rfl))
  have HE6 := Aside0.mk (HE5.out.keep (f6.block g (by have := HG.out.2; have := Z4.out; have := Z5.out; omega) HG.out.1))
  have Z6 := Aside0.mk f6.size
  clear he h6 f6 H5 B5 X65 X35 HE5
  go_wp2_with fail
  refine (seg_Index.calls w6 (fun k => gr T w5 k ∧ k < w6.heap.size) d st2 H6.out (fun k hk => hk.2) HS2.out 7 (by decide) (HL.out.below B6.out)).mono ?_
  rintro e w7 ⟨v, T7, he, h7, hT7, hR7, f7⟩
  rw [HI0.out] at he h7 hR7
  obtain ⟨g7, c7, rfl, k1, k2, k3, hE7⟩ := one_ent hR7
  have he' : e = .returned (.tuple #[.slice (some ⟨g7, 0, none⟩) 1 c7, .int .i64 0]) := he
  subst he'
  have H7 := Aside0.mk (show DskAt w7 T7 d st2 from h7)
  have hA6 : ∀ k, gr T w5 k ∧ k < w6.heap.size → w.heap.size ≤ k := fun k hk => hk.1.elim (fun h => (HT.out k h).1) (fun h => Nat.le_trans ZW.out h)
  have B7 := Aside0.mk (frm_below B6.out hA6 f7)
  have n6 : ¬ (gr T w5 b6 ∧ b6 < w6.heap.size) := fun hk => hk.1.elim (fun h => by have := (HT.out _ h).2.1; have := Z4.out; omega) (fun h => by have := Z5.out; omega)
  have n3 : ¬ (gr T w5 b3 ∧ b3 < w6.heap.size) := fun hk => hk.1.elim (fun h => (HT.out _ h).2.2 rfl) (fun h => by have := Z35.out; omega)
  have ng : ¬ (gr T w5 g ∧ g < w6.heap.size) := fun hk => hk.1.elim HG.out.1 (fun h => by have := HG.out.2; have := Z5.out; have := Z4.out; omega)
  have X67 := Aside0.mk (f7.keeps X66.out n6)
  have X37 := Aside0.mk (f7.keeps X36.out n3)
  have HE7 := Aside0.mk (HE6.out.keep (f7.block g (by have := HG.out.2; have := Z4.out; have := Z5.out; have := Z6.out; omega) ng))
  have HF7 := Aside0.mk hE7
  have HG7 := Aside0.mk k3
  have Z7 := Aside0.mk f7.size
  clear he h7 hT7 hR7 f7 H6 B6 X66 X36 HE6 n6 n3 ng hA6 k1 k2 k3 hE7
  go_wp2_with fail
  refine (seg_Number.calls ⟨#[115, 48, 48, 48, 48, 48, 55]⟩ (by decide) _ (HL.out.below B7.out)).mono ?_
  rintro e w8 ⟨⟨r, hr, rfl⟩, b8⟩
  have hr7 : r = (7, true) := by
    rw [segO_num hr, numL_of (n := 7) ⟨by decide, by decide⟩]
    rfl
  subst hr7
  have H8 := Aside0.mk (H7.out.below b8)
  have B8 := Aside0.mk (B7.out.trans (b8.mono B7.out.size))
  have X68 := Aside0.mk (blk_below X67.out b8)
  have X38 := Aside0.mk (blk_below X37.out b8)
  have HE8 := Aside0.mk (HE7.out.keep (b8.block g (by have := HG.out.2; have := Z4.out; have := Z5.out; have := Z6.out; have := Z7.out; omega)))
  have HF8 := Aside0.mk (HF7.out.keep (b8.block g7 HG7.out))
  have Z8 := Aside0.mk b8.size
  clear hr b8 H7 B7 X67 X37 HE7 HF7
  have hq1 := heq_rec 3 ⟨#[107]⟩ ⟨#[118]⟩ false
  have hq2 := heq_ent (B e0.key) e0.off e0.len (e0.seq : Int) e0.gone
  go_upto_region 12 with (fail)
  refine region_tail 42 (by kernel_rfl) (by kernel_rfl) (fun W => Below w8.heap.size w8 W) ((Below.refl _ _).drew) ?_
  rintro w9 b9
  have B9 := Aside0.mk (B8.out.trans (b9.mono B8.out.size))
  have H9 := Aside0.mk (H8.out.below b9)
  obtain ⟨p0, p1, p2, p3, fp⟩ := cells4f (blk_below X68.out b9)
  obtain ⟨q0, q1, q2, q3, fq⟩ := cells4f (blk_below X38.out b9)
  obtain ⟨e0', e1', e2', e3', e4'⟩ := HE8.out.keep (b9.block g (by have := HG.out.2; have := Z4.out; have := Z5.out; have := Z6.out; have := Z7.out; have := Z8.out; omega))
  obtain ⟨k0', k1', k2', k3', k4'⟩ := HF8.out.keep (b9.block g7 (by have := HG7.out; have := Z8.out; omega))
  clear b9 X68 X38 HE8 HF8 H8 B8
  refine WS.out ?_
  repeat (first | refine ws_want (v := _) (a' := _) (by rfl) (by go_simp; rfl) (by simp only [Act.put, List.setIfInBounds_toArray, List.set_cons_zero, List.set_cons_succ]; rfl) ?_ | refine ws_skip (a' := _) (by rfl) (by simp only [Act.put, List.setIfInBounds_toArray, List.set_cons_zero, List.set_cons_succ]; rfl) ?_)
  refine ws_nil ?_
  go_wp2_with fail
  refine (seg_All.calls w9 T7 d st2 H9.out HLN.out HNS.out (HL.out.below B9.out)).mono ?_
  rintro e wa ⟨v, rfl, hR, ba⟩
  obtain ⟨A9, c9, rfl⟩ := Kd.R_slice hR
  have hl9 : ((nums (names st2.m)).map fun n : Nat => (n : Int)).length = 1 := by rw [List.length_map]; exact HNU.out
  rw [hl9]
  have Ba := Aside0.mk (B9.out.trans (ba.mono B9.out.size))
  clear hR ba hl9 p0 p1 p2 p3 fp q0 q1 q2 q3 fq e0' e1' e2' e3' e4' k0' k1' k2' k3' k4' hq1 hq2
  go_wp2_with fail
  go_ret
  exact ⟨rfl, Ba.out⟩
end Go.Proofs.YthndpknocofioaaGreatDoor.Thw
