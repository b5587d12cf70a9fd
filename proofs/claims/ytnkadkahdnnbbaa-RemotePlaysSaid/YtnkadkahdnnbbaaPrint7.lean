/- Written by a program of mine (give.py, over the kit's print) out of the translation: contracts of the Go functions. Lean checks it. -/
import Derived.Test.YtnkadkahdnnbbaaPrint0
namespace Go.Proofs.Ytnkadkahdnnbbaa.Print
open Go.RowKit Go.Proofs.YtnkadkahdnnbbaaW.PrintWords Go.Proofs.YtnkadkahdnnbbaaW.PrintLast Go.Proofs.YtnkadkahdnnbbaaW.PrintMore
attribute [local go_sem] max2_int min2_int max_two min_two max_three min_three max_four min_four   -- for this text's walks alone
set_option linter.unusedVariables false
set_option linter.unusedSimpArgs false

-- NOT PRINTED: function 65 (slices_partitionOrdered_string)

-- NOT PRINTED: function 55 (slices_pdqsortOrdered_string)

-- NOT PRINTED: function 52 (slices_Sort_string_string)

-- NOT PRINTED: function 49 (slices_Sorted_string)

-- NOT PRINTED: function 50 (maps_Keys_map_string_string_string_string)

-- NOT PRINTED: function 31 (remote_Remote_List)

-- NOT PRINTED: function 32 (thwartref07_Remote_List)

/-! ### thwartref06_Strings: function 33 -/
def thwartref06_Strings.l0 : Nat → List ByteArray → List ByteArray → Int → Option (Bool)
  | 0, _, _, _ => none
  | k + 1, x0, x1, x5 => if x5 < (x0.length : Int) then (if 0 ≤ x5 then (if x5 < (x1.length : Int) then (if (rdOf ByteArray.empty x0 x5).toList = (rdOf ByteArray.empty x1 x5).toList then (thwartref06_Strings.l0 k x0 x1 (wrap64 (x5 + 1))) else (some false)) else (none)) else (none)) else (some true)
def thwartref06_Strings.f (k : Nat) (l0 : List ByteArray) (l1 : List ByteArray) : Option (Bool) := if (l0.length : Int) = (l1.length : Int) then (thwartref06_Strings.l0 k l0 l1 0) else (some false)
theorem thwartref06_Strings.mono_l : ∀ k, (∀ y0 y1 y2, LeO (thwartref06_Strings.l0 k y0 y1 y2) (thwartref06_Strings.l0 (k + 1) y0 y1 y2))
  | 0 => fun _ _ _ r h => by simp [thwartref06_Strings.l0] at h
  | k + 1 => by
    have ih0 := thwartref06_Strings.mono_l k
    · intro y0 y1 y2
      unfold thwartref06_Strings.l0
      repeat' first
      | (with_reducible exact ih0 _ _ _)
      | (with_reducible exact LeO.refl _)
      | (with_reducible exact LeO.none _)
      | (with_reducible refine LeO.ite ?_ ?_)
      | (with_reducible refine LeO.bind ?_ (fun _ => ?_))
      | exact ih0 _ _ _
      | exact LeO.none _
      | refine LeO.ite ?_ ?_
      | refine LeO.bind ?_ (fun _ => ?_)
theorem thwartref06_Strings.mono : ∀ a0 a1 k, LeO (thwartref06_Strings.f k a0 a1) (thwartref06_Strings.f (k + 1) a0 a1) := by
  intro a0 a1 k
  have ih0 := thwartref06_Strings.mono_l k
  unfold thwartref06_Strings.f
  repeat' first
      | (with_reducible exact ih0 _ _ _)
      | (with_reducible exact LeO.refl _)
      | (with_reducible exact LeO.none _)
      | (with_reducible refine LeO.ite ?_ ?_)
      | (with_reducible refine LeO.bind ?_ (fun _ => ?_))
      | exact ih0 _ _ _
      | exact LeO.none _
      | refine LeO.ite ?_ ?_
      | refine LeO.bind ?_ (fun _ => ?_)
set_option maxHeartbeats 8000000 in
set_option maxRecDepth 100000 in
theorem thwartref06_Strings.calls (k : Nat) (A0 : Option Addr) (c0 : Nat) (l0 : List ByteArray) (A1 : Option Addr) (c1 : Nat) (l1 : List ByteArray) (r : Bool) (w : World) (hr0 : Kd.C Kd.string w A0 l0.length l0) (hc0 : l0.length ≤ c0) (hr1 : Kd.C Kd.string w A1 l1.length l1) (hc1 : l1.length ≤ c1) (h : thwartref06_Strings.f k l0 l1 = some r) :
    Calls Try.prog 33 #[.slice A0 l0.length c0, .slice A1 l1.length c1] w fun e w' => e = .returned (.bool r) ∧ Drawn0 w w' := by
  have HR0 := Aside0.mk hr0
  have HC0 := Aside0.mk hc0
  clear hr0 hc0
  have HR1 := Aside0.mk hr1
  have HC1 := Aside0.mk hc1
  clear hr1 hc1
  have H : (if (l0.length : Int) = (l1.length : Int) then (thwartref06_Strings.l0 k l0 l1 0) else (some false)) = some r := h
  clear h
  by_cases c3 : (l0.length : Int) = (l1.length : Int)
  · rw [if_pos c3] at H
    have c3b0 : ((l0.length : Int) == (l1.length : Int)) = true := beq_iff_eq.mpr c3
    have c3b1 : ((l0.length : Int) != (l1.length : Int)) = false := bne_eq_false_iff_eq.mpr c3
    have c3b2 : (l0.length == l1.length) = true := by first | simpa using c3 | (simp at c3 ⊢; omega)
    clear c3
    have H' := Aside0.mk H
    clear H
    go_enter Try.func33, Try.ntmps33
    go_wp2
    repeat (go_quiet (fail); try go_wp2)
    go_loopg [5] k (fun kq v5 w' => ∃ (x5_1 : Int), v5 = .int .i64 x5_1 ∧ Aside0 (thwartref06_Strings.l0 kq l0 l1 x5_1 = some r) ∧ Aside0 (kq ≤ k) ∧ Drawn0 w w')
    case atStart => exact ⟨(0), (by first | rfl | (simp; done) | (simp [*]; done)), H', ⟨Nat.le_refl _⟩, by repeat (first | exact Drawn0.refl _ | apply Drawn0.step)⟩
    case round =>
      clear H'
      try clear c1
      try clear p2
      try clear c3
      try clear c3b0
      try clear c3b1
      try clear c3b2
      obtain ⟨x5_1, rfl, HA, HK1, ⟨m1, rfl⟩⟩ := hrel
      cases gk with
      | zero => exact absurd HA.out (by simp [thwartref06_Strings.l0])
      | succ k1 =>
        have H := HA.out
        clear HA
        simp only [thwartref06_Strings.l0] at H
        by_cases c4 : x5_1 < (l0.length : Int)
        · rw [if_pos c4] at H
          have c4b0 : decide (x5_1 < (l0.length : Int)) = true := decide_eq_true c4
          clear c4
          by_cases c5 : 0 ≤ x5_1
          · rw [if_pos c5] at H
            have c5b0 : decide (0 ≤ x5_1) = true := decide_eq_true c5
            clear c5
            by_cases c6 : x5_1 < (l1.length : Int)
            · rw [if_pos c6] at H
              have c6b0 : decide (x5_1 < (l1.length : Int)) = true := decide_eq_true c6
              clear c6
              by_cases c7 : (rdOf ByteArray.empty l0 x5_1).toList = (rdOf ByteArray.empty l1 x5_1).toList
              · rw [if_pos c7] at H
                have c7b0 : ((rdOf ByteArray.empty l0 x5_1).toList == (rdOf ByteArray.empty l1 x5_1).toList) = true := beq_iff_eq.mpr c7
                have c7b1 : ((rdOf ByteArray.empty l0 x5_1).toList != (rdOf ByteArray.empty l1 x5_1).toList) = false := bne_eq_false_iff_eq.mpr c7
                clear c7
                have H' := Aside0.mk H
                clear H
                have p225 : 0 ≤ (x5_1 : Int) := of_decide_eq_true (by first | (with_reducible assumption) | assumption)
                have q225 : x5_1 < (l0.length : Int) := of_decide_eq_true (by first | (with_reducible assumption) | assumption)
                obtain ⟨ad225, e225, hx225_0⟩ := Kd.at_string HR0.out x5_1 p225 q225
                cases e225
                replace p225 := eq_true p225
                replace q225 := eq_true q225
                have p226 : 0 ≤ (x5_1 : Int) := of_decide_eq_true (by first | (with_reducible assumption) | assumption)
                have q226 : x5_1 < (l1.length : Int) := of_decide_eq_true (by first | (with_reducible assumption) | assumption)
                obtain ⟨ad226, e226, hx226_0⟩ := Kd.at_string HR1.out x5_1 p226 q226
                cases e226
                replace p226 := eq_true p226
                replace q226 := eq_true q226
                go_wp2
                repeat (go_quiet (fail); try go_wp2)
                go_roundg k1
                case measure => have := HK1.out; omega
                case rel => exact ⟨(wrap64 (x5_1 + 1)), (by first | rfl | (simp; done) | (simp [*]; done)), H', ⟨by have := HK1.out; omega⟩, by repeat (first | exact Drawn0.refl _ | apply Drawn0.step)⟩
              · rw [if_neg c7] at H
                have c7b0 : ((rdOf ByteArray.empty l0 x5_1).toList == (rdOf ByteArray.empty l1 x5_1).toList) = false := beq_eq_false_iff_ne.mpr c7
                have c7b1 : ((rdOf ByteArray.empty l0 x5_1).toList != (rdOf ByteArray.empty l1 x5_1).toList) = true := bne_iff_ne.mpr c7
                obtain rfl := Option.some.inj H
                have p225 : 0 ≤ (x5_1 : Int) := of_decide_eq_true (by first | (with_reducible assumption) | assumption)
                have q225 : x5_1 < (l0.length : Int) := of_decide_eq_true (by first | (with_reducible assumption) | assumption)
                obtain ⟨ad225, e225, hx225_0⟩ := Kd.at_string HR0.out x5_1 p225 q225
                cases e225
                replace p225 := eq_true p225
                replace q225 := eq_true q225
                have p226 : 0 ≤ (x5_1 : Int) := of_decide_eq_true (by first | (with_reducible assumption) | assumption)
                have q226 : x5_1 < (l1.length : Int) := of_decide_eq_true (by first | (with_reducible assumption) | assumption)
                obtain ⟨ad226, e226, hx226_0⟩ := Kd.at_string HR1.out x5_1 p226 q226
                cases e226
                replace p226 := eq_true p226
                replace q226 := eq_true q226
                go_wp2
                repeat (go_quiet (fail); try go_wp2)
                go_ret
                exact ⟨by first | rfl | (simp; done) | (simp [*]; done), by repeat (first | exact Drawn0.refl _ | apply Drawn0.step)⟩
            · rw [if_neg c6] at H
              exact absurd H (by simp)
          · rw [if_neg c5] at H
            exact absurd H (by simp)
        · rw [if_neg c4] at H
          have c4b0 : decide (x5_1 < (l0.length : Int)) = false := decide_eq_false c4
          clear c4
          obtain rfl := Option.some.inj H
          go_wp2
          repeat (go_quiet (fail); try go_wp2)
          go_ret
          exact ⟨by first | rfl | (simp; done) | (simp [*]; done), by repeat (first | exact Drawn0.refl _ | apply Drawn0.step)⟩
  · rw [if_neg c3] at H
    have c3b0 : ((l0.length : Int) == (l1.length : Int)) = false := beq_eq_false_iff_ne.mpr c3
    have c3b1 : ((l0.length : Int) != (l1.length : Int)) = true := bne_iff_ne.mpr c3
    have c3b2 : (l0.length == l1.length) = false := by first | simpa using c3 | (simp at c3 ⊢; omega)
    obtain rfl := Option.some.inj H
    go_enter Try.func33, Try.ntmps33
    go_wp2
    repeat (go_quiet (fail); try go_wp2)
    go_ret
    exact ⟨by first | rfl | (simp; done) | (simp [*]; done), by repeat (first | exact Drawn0.refl _ | apply Drawn0.step)⟩

/-! ### thwartlaw07_RemotePlays: function 7 -/
def thwartlaw07_RemotePlays.ok (o : S63) : Prop := o.f3.length * 8 ≤ 140737488351232
instance (o : S63) : Decidable (thwartlaw07_RemotePlays.ok o) := by unfold thwartlaw07_RemotePlays.ok; infer_instance
def thwartlaw07_RemotePlays.f (a0 : List S63) : Option Bool := if (∀ o ∈ a0, thwartlaw07_RemotePlays.ok o) then some true else none
theorem thwartlaw07_RemotePlays.calls (A0 : Option Addr) (c0 : Nat) (l0 : List S63) (r : Bool) (w : World) (hr0 : k63.C w A0 l0.length l0) (hc0 : l0.length ≤ c0) (h : thwartlaw07_RemotePlays.f l0 = some r) :
    Calls Try.prog 7 #[.slice A0 l0.length c0] w fun e w' => e = .returned (.bool r) ∧ Below w.heap.size w w' := by
  unfold thwartlaw07_RemotePlays.f at h
  split at h
  · rename_i hok
    cases h
    refine Thw.plays07_walk A0 l0.length c0 (fun i => let o := rd_T63 l0 (i : Int); ⟨o.f0, o.f1, o.f2, o.f3⟩) w (fun i hi => ?_) (fun i hi => ?_) hc0
    · have hx := at_T63 hr0 (i : Int) (by omega) (by omega)
      obtain ⟨ad, A5, c5, e, h0, h1, h2, h3, h4, h5⟩ := hx
      exact ⟨ad, A5, c5, e, h0, h1, h2, h3, h4, h5⟩
    · have e : rd_T63 l0 (i : Int) = l0[i] := by simp [rd_T63, List.getD_eq_getElem?_getD, hi]
      have := hok _ (List.getElem_mem hi)
      rw [← e] at this
      exact this
  · cases h

/-- THE ONE PURE STATEMENT of thwartlaw07_RemotePlays: yours. -/
def thwartlaw07_RemotePlays.Pure : Prop := ∀ (l0 : List (S63)), l0.length * 64 ≤ 140737488351232 → (l0.length ≤ 9223372036854775807 ∧ l0.length * 64 ≤ 140737488351232 ∧ ∀ e227 ∈ l0, ((Lit.int .i64 e227.f0).wf = true ∧ e227.f1.size ≤ 9223372036854775807 ∧ e227.f2.size ≤ 9223372036854775807 ∧ (e227.f3.length ≤ 9223372036854775807 ∧ e227.f3.length * 8 ≤ 140737488351232 ∧ ∀ e228 ∈ e227.f3, (Lit.int .i64 e228).wf = true))) → thwartlaw07_RemotePlays.f l0 = some true
theorem thwartlaw07_RemotePlays.walk (P : thwartlaw07_RemotePlays.Pure) (A0 : Option Addr) (n0 c0 : Nat) (l0 : List (S63)) (w : World) (K0 : (Kd.slice 63 k63).K w l0 [.slice A0 n0 c0]) (y0 : n0 * 64 ≤ 140737488351232) (G0 : (l0.length ≤ 9223372036854775807 ∧ l0.length * 64 ≤ 140737488351232 ∧ ∀ e227 ∈ l0, ((Lit.int .i64 e227.f0).wf = true ∧ e227.f1.size ≤ 9223372036854775807 ∧ e227.f2.size ≤ 9223372036854775807 ∧ (e227.f3.length ≤ 9223372036854775807 ∧ e227.f3.length * 8 ≤ 140737488351232 ∧ ∀ e228 ∈ e227.f3, (Lit.int .i64 e228).wf = true)))) :
    Calls Try.prog 7 #[.slice A0 n0 c0] w fun e w' => e = .returned (.bool true) ∧ Below w.heap.size w w' := by
  obtain ⟨A0_, c0_, e0, hc0, hr0⟩ := K0
  simp only [List.cons.injEq, Value.slice.injEq, and_true] at e0
  obtain ⟨rfl, rfl, rfl⟩ := e0
  have h := P l0 y0 G0
  refine (thwartlaw07_RemotePlays.calls _ _ l0 true w hr0 hc0 h).mono ?_
  rintro e w' ⟨rfl, hd⟩
  exact ⟨rfl, hd⟩

end Go.Proofs.Ytnkadkahdnnbbaa.Print
