/- Layer 12: ManifestOrder's walk. -/
import Derived.Test.YtgampcbjmdgciaaDoorEv12e
import Derived.Sort.Walk0
namespace Go.Proofs.YtgampcbjmdgciaaDoor.Thw
open Go Go.RowKit Go.Proofs.YtgampcbjmdgciaaDoor.Print Go.Proofs.YtgampcbjmdgciaaDoorW.PrintWords Go.Proofs.YtgampcbjmdgciaaDoorW.PrintLast Go.Proofs.YtgampcbjmdgciaaDoorW.PrintMore
set_option linter.unusedVariables false
set_option linter.unusedSimpArgs false
theorem nameL_len (c : UInt8) (n f : Int) : (nameL c n f).length ≤ 7 := by
  unfold nameL
  split
  · simp
  · rw [List.length_cons, six_length]; omega
theorem nameB_size (c : UInt8) (n f : Int) : (nameB c n f).size ≤ 7 := by
  unfold nameB
  rw [B_size]
  exact nameL_len c n f
theorem object_noV (n : Int) (m : Nat) : ¬ IsV (L (nameB 111 n 0)) m := by
  rintro ⟨_, _, h⟩
  unfold nameB nameL at h
  rw [L_B] at h
  split at h
  · cases h
  · injection h with h _
    exact absurd h (by decide)
theorem ver_object {n : Int} {r : Int × Bool} (h : verO (nameB 111 n 0) r) : r = (0, false) := by
  rcases h with ⟨m, h, _⟩ | ⟨_, h⟩
  · exact absurd h (object_noV n m)
  · exact h
theorem ver_name {n : Int} (h1 : 1 ≤ n) (h2 : n ≤ 999999) {r : Int × Bool} (h : verO (nameB 109 n 1) r) : r = (n, true) := by
  have hv : IsV (L (nameB 109 n 1)) n.toNat := by
    refine ⟨by omega, by omega, ?_⟩
    unfold nameB nameL
    rw [L_B, if_neg (by omega)]
  rcases h with ⟨m, h, hr⟩ | ⟨h, _⟩
  · rw [hr, h.uniq hv, Int.toNat_of_nonneg (by omega)]
  · exact absurd hv (h _)
theorem name_less {a b : Int} (ha : 1 ≤ a) (ha2 : a ≤ 999999) (hb : 1 ≤ b) (hb2 : b ≤ 999999) : Op.bytesLess (nameB 109 a 1).toList (nameB 109 b 1).toList = decide (a < b) := by
  rw [Bool.eq_iff_iff, bytesLess_eq, Lib.toList_data, Lib.toList_data, decide_eq_true_eq, decide_eq_true_eq]
  have ea : (nameB 109 a 1).data.toList = 109 :: six a.toNat := by
    unfold nameB nameL
    rw [if_neg (by omega)]
    rfl
  have eb : (nameB 109 b 1).data.toList = 109 :: six b.toNat := by
    unfold nameB nameL
    rw [if_neg (by omega)]
    rfl
  rw [ea, eb, List.cons_lt_cons_iff]
  have h := digs_lt 6 a.toNat b.toNat (by omega) (by omega)
  have h' : six a.toNat < six b.toNat ↔ a.toNat < b.toNat := h
  rw [h']
  constructor
  · rintro (h | ⟨_, h⟩)
    · exact absurd h (by decide)
    · omega
  · intro h
    exact Or.inr ⟨rfl, by omega⟩
theorem name_size {a : Int} (ha : 1 ≤ a) (ha2 : a ≤ 999999) : (nameB 109 a 1).size = 7 := by
  unfold nameB nameL
  rw [if_neg (by omega), B_size, List.length_cons, six_length]
set_option maxHeartbeats 6400000 in
theorem order_walk (a b : Int) (ha : -9223372036854775808 ≤ a ∧ a ≤ 9223372036854775807) (hb : -9223372036854775808 ≤ b ∧ b ≤ 9223372036854775807) (w : World) (hL : LaidW w) :
    Calls Tryd.prog 6 #[.int .i64 a, .int .i64 b] w fun e w' => e = .returned (.bool true) ∧ Below w.heap.size w w' := by
  have HL := Aside0.mk hL
  clear hL
  go_enter Tryd.func6, Tryd.ntmps6
  go_wp2_with fail
  refine (awake12.calls _ HL.out).mono ?_
  rintro e w1 ⟨rfl, b1⟩
  have B1 := Aside0.mk b1
  clear b1
  go_wp2_with fail
  refine (man_Name.calls a ha _ (HL.out.below B1.out)).mono ?_
  rintro e w2 ⟨rfl, b2⟩
  have B2 := Aside0.mk (B1.out.trans (b2.mono B1.out.size))
  clear b2
  obtain ⟨x, hx⟩ : ∃ x, nameB 109 a 1 = x := ⟨_, rfl⟩
  have HX := Aside0.mk hx
  rw [hx]
  clear hx
  go_wp2_with fail
  refine (man_Name.calls b hb _ (HL.out.below B2.out)).mono ?_
  rintro e w3 ⟨rfl, b3⟩
  have B3 := Aside0.mk (B2.out.trans (b3.mono B2.out.size))
  clear b3
  obtain ⟨y, hy⟩ : ∃ y, nameB 109 b 1 = y := ⟨_, rfl⟩
  have HY := Aside0.mk hy
  rw [hy]
  clear hy
  go_wp2_with fail
  refine (man_Version.calls x (by rw [← HX.out]; have := nameB_size 109 a 1; omega) _ (HL.out.below B3.out)).mono ?_
  rintro e w4 ⟨⟨r, hr, rfl⟩, b4⟩
  have B4 := Aside0.mk (B3.out.trans (b4.mono B3.out.size))
  have HV := Aside0.mk hr
  clear b4 hr
  go_wp2_with fail
  refine (man_Object.calls b hb _ (HL.out.below B4.out)).mono ?_
  rintro e w5 ⟨rfl, b5⟩
  have B5 := Aside0.mk (B4.out.trans (b5.mono B4.out.size))
  clear b5
  go_wp2_with fail
  refine (man_Version.calls (nameB 111 b 0) (by have := nameB_size 111 b 0; omega) _ (HL.out.below B5.out)).mono ?_
  rintro e w6 ⟨⟨r2, hr2, rfl⟩, b6⟩
  obtain rfl := ver_object hr2
  have B6 := Aside0.mk (B5.out.trans (b6.mono B5.out.size))
  clear b6 hr2
  generalize nameB 111 b 0 = ob
  by_cases h1 : a < 1
  · have d1 : decide (a < 1) = true := decide_eq_true h1
    go_wp2_with fail
    go_ret
    exact ⟨rfl, B6.out⟩
  have d1 : decide (a < 1) = false := decide_eq_false h1
  by_cases h2 : b < 1
  · have d2 : decide (b < 1) = true := decide_eq_true h2
    go_wp2_with fail
    go_ret
    exact ⟨rfl, B6.out⟩
  have d2 : decide (b < 1) = false := decide_eq_false h2
  by_cases h3 : 999999 < a
  · have d3 : decide (999999 < a) = true := decide_eq_true h3
    go_wp2_with fail
    go_ret
    exact ⟨rfl, B6.out⟩
  have d3 : decide (999999 < a) = false := decide_eq_false h3
  by_cases h4 : 999999 < b
  · have d4 : decide (999999 < b) = true := decide_eq_true h4
    go_wp2_with fail
    go_ret
    exact ⟨rfl, B6.out⟩
  have d4 : decide (999999 < b) = false := decide_eq_false h4
  have hrv : r = (a, true) := ver_name (n := a) (by omega) (by omega) (by rw [HX.out]; exact HV.out)
  have HLS := Aside0.mk (show Op.bytesLess x.toList y.toList = decide (a < b) by rw [← HX.out, ← HY.out]; exact name_less (by omega) (by omega) (by omega) (by omega))
  have hsz : x.size = 7 := by rw [← HX.out]; exact name_size (by omega) (by omega)
  subst hrv
  cases hab : decide (a < b) with
  | true =>
    have hls : Op.bytesLess x.toList y.toList = true := by rw [HLS.out, hab]
    go_wp2_with fail
    go_ret
    exact ⟨rfl, B6.out⟩
  | false =>
    have hls : Op.bytesLess x.toList y.toList = false := by rw [HLS.out, hab]
    go_wp2_with fail
    go_ret
    exact ⟨rfl, B6.out⟩
end Go.Proofs.YtgampcbjmdgciaaDoor.Thw
