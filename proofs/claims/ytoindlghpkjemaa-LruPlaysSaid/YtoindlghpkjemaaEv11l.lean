/- Layer 11: the document's Drop; same. -/
import Derived.Test.YtoindlghpkjemaaEv11k
namespace Go.Proofs.Ytoindlghpkjemaa.Thw
open Go Go.RowKit Go.Proofs.YtoindlghpkjemaaW.PrintWords Go.Proofs.YtoindlghpkjemaaW.PrintLast Go.Proofs.YtoindlghpkjemaaW.PrintMore
set_option linter.unusedVariables false
set_option linter.unusedSimpArgs false
theorem dropD_take_succ (X : Row2) (seg : Int) {k : Nat} (hk : k < X.length) : dropD (X.take (k + 1)) seg = if X[k].1.1 ≠ seg then dropD (X.take k) seg ++ [X[k]] else dropD (X.take k) seg := by
  unfold dropD
  rw [List.take_succ_eq_append_getElem hk, List.filter_append, List.filter_cons]
  by_cases h : X[k].1.1 = seg
  · simp [h]
  · simp [h]
theorem dropD_len (X : Row2) (seg : Int) : (dropD X seg).length ≤ X.length := List.length_filter_le _ _
set_option maxHeartbeats 12800000 in
set_option maxRecDepth 100000 in
theorem rf_Drop (w : World) (A : Nat → Prop) (g : Nat) (X : Row2) (most : Int) (h : RfL w A g X most) (hl : X.length ≤ 1000) (seg : Int) : Calls Try.prog 31 #[.pointer (some ⟨g, 0, none⟩), .int .i64 seg] w (RPost (.int .i64 ((X.length : Int) - (dropD X seg).length)) w A g (dropD X seg) most) := by
  have H := Aside0.mk h
  have hA := Aside0.mk h.own
  have hOLD := Aside0.mk h.old
  clear h
  go_enter Try.func31, Try.ntmps31
  go_wp2_with fail
  go_loopw [5, 6] (fun v5 v6 wr => ∃ k : Nat, k ≤ X.length ∧ v6 = .int .i64 k ∧ Aside0 (kI.R 95 wr w.heap.size (fun _ => True) v5 (dropD (X.take k) seg)) ∧ Aside0 (Below w.heap.size w wr)) (fun _ v6 _ => X.length - (intOf v6).toNat)
  case atStart => exact ⟨0, Nat.zero_le _, rfl, ⟨Kd.R_nil _ _ _ _ _⟩, ⟨Below.refl _ _⟩⟩
  case round =>
    obtain ⟨k, hk, rfl, HR, HB⟩ := hrel
    obtain ⟨A5, c5, rfl⟩ := Kd.R_slice HR.out
    obtain ⟨_, _, v0, hst, hRst⟩ := H.out.below HB.out
    obtain ⟨A0, cap0, rfl, hc0, hC0⟩ := Kd.R_reads hRst
    obtain ⟨s0, s1, sr⟩ := cells2' hst
    by_cases hkn : k < X.length
    · have dk : decide ((k : Int) < (X.length : Int)) = true := decide_eq_true (by omega)
      obtain ⟨ad, rfl, q0, q1, q2⟩ := C_itAt hC0 hkn
      have hsucc := dropD_take_succ X seg hkn
      have hlen : (dropD (X.take k) seg).length ≤ k := Nat.le_trans (dropD_len _ _) (by simp; omega)
      generalize X[k] = it at q0 q1 q2 hsucc
      obtain ⟨⟨x1, x2⟩, xs⟩ := it
      simp only at q0 q1 q2 hsucc
      have HSU := Aside0.mk hsucc
      have y0 : 0 ≤ (k : Int) := by omega
      have y1 : (k : Int) < (X.length : Int) := by omega
      clear hst hRst hsucc hC0
      rcases Bool.eq_false_or_eq_true (x1 == seg) with hs | hs
      · have hss : x1 = seg := by simpa using hs
        have hnx : dropD (X.take (k + 1)) seg = dropD (X.take k) seg := by rw [HSU.out, if_neg (fun h => h hss)]
        have HNX := Aside0.mk hnx
        have hsn : (x1 != seg) = false := by simpa using hss
        clear hnx hss
        go_wp2_with fail
        go_roundw
        case rel => exact ⟨k + 1, by omega, by go_num, by rw [HNX.out]; exact HR, HB⟩
        case measure => simp [intOf]; omega
      · have hss : x1 ≠ seg := by simpa using hs
        have hnx : dropD (X.take (k + 1)) seg = dropD (X.take k) seg ++ [((x1, x2), xs)] := by rw [HSU.out, if_pos hss]
        have HNX := Aside0.mk hnx
        have hsn : (x1 != seg) = true := by simpa using hss
        clear hnx hss
        go_wp2_with (at_builtin; refine Kd.R_append kI (w0 := w) w.heap.size rfl (.tmp 28) (.tmp 36) 64 95 (.agg #[.int .i64 0, .int .i64 0, .string ⟨#[]⟩]) 32 rfl Try.underlying64 infoI rfl (by decide) (by omega) (.slice A5 (dropD (X.take k) seg).length c5) (dropD (X.take k) seg) ((x1, x2), xs) [.int .i64 x1, .int .i64 x2, .string xs] (fun _ => True) (fun _ => False) rfl rfl (kI_M _ _ _ ((x1, x2), xs)) (fun _ hk => hk.elim) (fun _ _ => trivial) HR.out HB.out HB.out.size (by omega) ?_; intro v1 w5 hR hB hg hat; obtain ⟨A6, c6, rfl⟩ := Kd.R_slice hR; have HR5 := Aside0.mk hR; have HB5 := Aside0.mk hB; clear hR hB hg hat)
        go_roundw
        case rel => exact ⟨k + 1, by omega, by go_num, by rw [HNX.out]; simpa using HR5, HB5⟩
        case measure => simp [intOf]; omega
    · have dk : decide ((k : Int) < (X.length : Int)) = false := decide_eq_false (by omega)
      have hkk : k = X.length := by omega
      subst hkk
      rw [List.take_length] at HR ⊢
      have hdl := dropD_len X seg
      have hw : IntKind.i64.wrap ((X.length : Int) - ((dropD X seg).length : Int)) = (X.length : Int) - ((dropD X seg).length : Int) := IntWalk.i64_in _ (by omega)
      have hH := H.out
      obtain ⟨k1, k2⟩ := hH.turned HB.out (v := .slice A5 (dropD X seg).length c5) (Kd.R_mono (Kd.R_lower (Kd.R_bound HR.out) (Nat.zero_le _)) (fun i hi => ⟨Or.inr hi.2.1, by have h1 := hOLD.out g hA.out; have h2 := hi.2.1; omega⟩))
      have K1 := Aside0.mk k1
      have K2 := Aside0.mk k2
      clear k1 k2 hst hRst hC0 hH
      go_wp2_with fail
      go_ret
      exact ⟨rfl, K1.out.mono (fun k hk h => ⟨h.1, hk⟩) (fun k hk => hk.2), K2.out⟩
set_option maxHeartbeats 6400000 in
set_option maxRecDepth 100000 in
theorem same11 (w : World) (X : Row2) (A0 A1 : Option Addr) (c0 c1 : Nat) (h0 : kB.C w A0 X.length (keysOf X)) (h1 : kI.C w A1 X.length X) (hc0 : X.length ≤ c0) (hc1 : X.length ≤ c1) (hl : X.length ≤ 1000) : Calls Try.prog 32 #[.slice A0 X.length c0, .slice A1 X.length c1] w fun e w' => e = .returned (.bool true) ∧ Below w.heap.size w w' := by
  have H0 := Aside0.mk h0
  have H1 := Aside0.mk h1
  have hkl : (keysOf X).length = X.length := by simp [keysOf]
  have HKL := Aside0.mk hkl
  clear h0 h1 hkl
  go_enter Try.func32, Try.ntmps32
  go_wp2_with fail
  go_loopw [5] (fun v5 wr => ∃ k : Nat, k ≤ X.length ∧ v5 = .int .i64 k ∧ Aside0 (Below w.heap.size w wr)) (fun v5 _ => X.length - (intOf v5).toNat)
  case atStart => exact ⟨0, Nat.zero_le _, rfl, ⟨Below.refl _ _⟩⟩
  case round =>
    obtain ⟨k, hk, rfl, HB⟩ := hrel
    by_cases hkn : k < X.length
    · have dk : decide ((k : Int) < (X.length : Int)) = true := decide_eq_true (by omega)
      have hC0 : kB.C wr A0 (keysOf X).length (keysOf X) := by rw [HKL.out]; exact Kd.C_below H0.out HB.out
      obtain ⟨ad0, rfl, u0, u1⟩ := C_bkAt (k := k) hC0 (by rw [HKL.out]; exact hkn)
      obtain ⟨ad1, rfl, q0, q1, q2⟩ := C_itAt (Kd.C_below H1.out HB.out) hkn
      have hkx : (keysOf X)[k]'(by rw [HKL.out]; exact hkn) = X[k].1 := by simp [keysOf]
      rw [hkx] at u0 u1
      generalize X[k] = it at u0 u1 q0 q1
      obtain ⟨⟨x1, x2⟩, xs⟩ := it
      simp only at u0 u1 q0 q1
      have U0 := Aside0.mk u0
      have U1 := Aside0.mk u1
      have Q0 := Aside0.mk q0
      have Q1 := Aside0.mk q1
      have y0 : 0 ≤ (k : Int) := by omega
      have y1 : (k : Int) < (X.length : Int) := by omega
      clear u0 u1 q0 q1 q2 hC0 hkx
      go_upto_region 6 with (fail)
      refine region_still (by kernel_rfl) (by kernel_rfl) (fun W => W.cell? (ad0.add (k * 2)) = some (.int .i64 x1) ∧ W.cell? ⟨(ad0.add (k * 2)).block, (ad0.add (k * 2)).off + 1, none⟩ = some (.int .i64 x2) ∧ W.cell? (ad1.add (k * 3)) = some (.int .i64 x1) ∧ W.cell? ⟨(ad1.add (k * 3)).block, (ad1.add (k * 3)).off + 1, none⟩ = some (.int .i64 x2) ∧ Below w.heap.size w W)
        ⟨U0.out, U1.out, Q0.out, Q1.out, HB.out.drew⟩ ?_
      rintro w3 ⟨u0, u1, q0, q1, b3⟩
      have B3 := Aside0.mk b3
      have heq := fun d w => eqBk d w x1 x2 x1 x2
      clear b3
      repeat still_step
      refine wpStill_nil ?_
      clear heq u0 u1 q0 q1
      go_wp2_with fail
      go_roundw
      case rel => exact ⟨k + 1, by omega, by go_num, B3⟩
      case measure => simp [intOf]; omega
    · have dk : decide ((k : Int) < (X.length : Int)) = false := decide_eq_false (by omega)
      go_wp2_with fail
      go_ret
      exact ⟨rfl, HB.out⟩
end Go.Proofs.Ytoindlghpkjemaa.Thw
