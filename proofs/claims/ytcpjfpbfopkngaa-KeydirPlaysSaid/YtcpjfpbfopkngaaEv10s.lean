/- Layer 10: KeydirHomes' walk (printed by gen10s.py). -/
import Derived.Test.YtcpjfpbfopkngaaEv10r
namespace Go.Proofs.Ytcpjfpbfopkngaa.Thw
open Go Go.RowKit Go.Proofs.YtcpjfpbfopkngaaW.PrintWords Go.Proofs.YtcpjfpbfopkngaaW.PrintLast Go.Proofs.YtcpjfpbfopkngaaW.PrintMore
set_option linter.unusedVariables false
set_option linter.unusedSimpArgs false
/-- What holds of the directory behind k steps; its blocks are all from B on. -/
def StepRel (B p k : Nat) (W : World) : Prop := ∃ A T m, DirAt W A p T (m : Nat) ∧ Inv T m k ∧ ∀ i, A i → B ≤ i
set_option maxHeartbeats 12800000 in
set_option maxRecDepth 100000 in
theorem homes_walk (A1 : Option Addr) (n c1 : Nat) (ops : Nat → OpK) (w : World) (hc : OpsK w A1 n ops) (hn : n ≤ c1) :
    Calls Try.prog 5 #[.slice A1 n c1] w fun e w' => e = .returned (.bool true) ∧ Below w.heap.size w w' := by
  have HC := Aside0.mk hc
  clear hc
  go_enter Try.func5, Try.ntmps5
  go_wp2_with fail
  refine (awake10.calls _).mono ?_
  rintro e w1 ⟨rfl, b1⟩
  have B1 := Aside0.mk b1
  clear b1
  go_wp2_with fail
  refine (light10.calls A1 n c1 ops _ (HC.out.below B1.out (Nat.le_refl _)) hn).mono ?_
  rintro e w' ⟨rl, rfl, rfl, hl⟩
  have HL := Aside0.mk hl
  clear hl
  go_wp2_with fail
  refine (dir_New.calls _).mono ?_
  rintro e w2 ⟨p, rfl, d2, b2⟩
  have H0 := Aside0.mk (show StepRel w.heap.size p 0 w2 from ⟨_, _, 0, d2, Inv.start, fun i h => Nat.le_trans B1.out.size h.1⟩)
  have BB := Aside0.mk (B1.out.trans (b2.mono B1.out.size))
  clear d2 b2
  cases rl with
  | false =>
    go_wp2_with fail
    go_ret
    exact ⟨rfl, BB.out⟩
  | true =>
  obtain ⟨hn150, hks⟩ := HL.out rfl
  have HK := Aside0.mk hks
  clear hks
  go_wp2_with fail
  go_loopw [6] (fun v6 wr => ∃ k : Nat, k ≤ n ∧ v6 = .int .i64 k ∧ Aside0 (StepRel w.heap.size p k wr) ∧ Aside0 (Below w.heap.size w wr)) (fun v6 _ => n - (intOf v6).toNat)
  case atStart => exact ⟨0, Nat.zero_le _, rfl, H0, BB⟩
  case round =>
    obtain ⟨k, hk, rfl, HR, HB⟩ := hrel
    by_cases hkn : k < n
    case neg =>
      have dkn : decide ((k : Int) < (n : Int)) = false := decide_eq_false (by omega)
      go_wp2_with fail
      go_ret
      exact ⟨rfl, HB.out⟩
    have dkn : decide ((k : Int) < (n : Int)) = true := decide_eq_true (by omega)
    obtain ⟨ad, rfl, q0, q1, q2, q3, q4, q5⟩ := HC.out k hkn
    have HKS := Aside0.mk (HK.out k hkn)
    generalize ops k = o at q0 q1 q2 q3 q4 q5 HKS
    obtain ⟨x0, x1, ⟨l0, l1, l2, l3⟩⟩ := o
    simp only at q0 q1 q2 q3 q4 q5 HKS
    have QW := Aside0.mk q1
    replace q0 := pw_cell_below HB.out q0
    replace q1 := pw_cell_below HB.out q1
    replace q2 := pw_cell_below HB.out q2
    replace q3 := pw_cell_below HB.out q3
    replace q4 := pw_cell_below HB.out q4
    replace q5 := pw_cell_below HB.out q5
    have p0 : 0 ≤ (k : Int) := by omega
    obtain ⟨A, T, m, hD, hI, hA⟩ := HR.out
    have HD := Aside0.mk hD
    have HI := Aside0.mk hI
    have HA := Aside0.mk hA
    clear hD hI hA HR H0 BB B1
    cases h4 : (x0 == 4) with
    | true =>
      have h4' := beq_iff_eq.1 h4
      subst h4'
      go_wp2_with fail
      refine (inv_Delete _ A p T m k HD.out HI.out (by omega) x1 HKS.out).mono ?_
      rintro e w2' ⟨rfl, hf, T2, m2, hd2, hi2, hlk, _⟩
      obtain ⟨A2, hA2⟩ : ∃ A2, A = A2 := ⟨_, rfl⟩
      rw [hA2] at hd2
      have D2 := Aside0.mk hd2
      have I2 := Aside0.mk hi2
      have S2 := Aside0.mk (show ∀ i, A2 i → w.heap.size ≤ i by rw [← hA2]; exact HA.out)
      have B2 := Aside0.mk (HB.out.trans (hf.below HB.out.size (fun i _ h => HA.out i h)))
      clear hf hd2 hi2 hlk hA2 HD HI HA q0 q1 q2 q3 q4 q5 HB
      have q1 := pw_cell_below B2.out QW.out
      go_wp2_with fail
      refine (inv_Far _ A2 p T2 m2 (k + 1) D2.out I2.out (by omega) x1 HKS.out).mono ?_
      rintro e w3 ⟨rfl, b3⟩
      have HF := Aside0.mk (farN_lt I2.out x1)
      obtain ⟨f, hf⟩ : ∃ f, farN T2 x1 = f := ⟨_, rfl⟩
      obtain ⟨sm, hsm⟩ : ∃ s, (lk T2 x1).isSome = s := ⟨_, rfl⟩
      rw [hf, hsm] at HF ⊢
      have B3 := Aside0.mk (B2.out.trans (b3.mono B2.out.size))
      have D3 := Aside0.mk (D2.out.below b3)
      clear hf hsm b3
      have f0 : decide ((f : Int) < 0) = false := decide_eq_false (by omega)
      obtain ⟨t2, ht2⟩ : ∃ t, T2.length = t := ⟨_, rfl⟩
      have HT2 := Aside0.mk ht2
      have f1 : f < t2 := by rw [← ht2]; exact HF.out.2.2
      clear ht2
      cases sm with
      | true =>
        have f2 : f < m2 := HF.out.1 rfl
        go_wp2_with fail
        refine (dir_Cap.calls _ A2 p T2 m2 D3.out).mono ?_
        rintro e w' ⟨rfl, rfl⟩
        rw [HT2.out]
        go_wp2_with fail
        refine (dir_Len.calls _ A2 p T2 m2 D3.out).mono ?_
        rintro e w' ⟨rfl, rfl⟩
        go_wp2_with fail
        go_roundw
        case measure => show n - ((k : Int) + 1).toNat < n - (k : Int).toNat; omega
        exact ⟨k + 1, by omega, rfl, ⟨⟨A2, T2, m2, D3.out, I2.out, S2.out⟩⟩, B3⟩
      | false =>
        have f3 : f = 0 := HF.out.2.1 rfl
        subst f3
        go_wp2_with fail
        refine (dir_Cap.calls _ A2 p T2 m2 D3.out).mono ?_
        rintro e w' ⟨rfl, rfl⟩
        rw [HT2.out]
        go_wp2_with fail
        go_roundw
        case measure => show n - ((k : Int) + 1).toNat < n - (k : Int).toNat; omega
        exact ⟨k + 1, by omega, rfl, ⟨⟨A2, T2, m2, D3.out, I2.out, S2.out⟩⟩, B3⟩
    | false =>
      go_upto_region 11 with (fail)
      refine region_tail 11 (by kernel_rfl) (by kernel_rfl) (fun W => DirAt W A p T m ∧ Below w.heap.size w W ∧ W.cell? ⟨(ad.add (k * 6)).block, (ad.add (k * 6)).off + 1, none⟩ = some (.string x1) ∧ W.cell? ⟨(ad.add (k * 6)).block, (ad.add (k * 6)).off + 2, none⟩ = some (.int .i64 l0) ∧ W.cell? ⟨(ad.add (k * 6)).block, (ad.add (k * 6)).off + 3, none⟩ = some (.int .i64 l1) ∧ W.cell? ⟨(ad.add (k * 6)).block, (ad.add (k * 6)).off + 4, none⟩ = some (.int .i64 l2) ∧ W.cell? ⟨(ad.add (k * 6)).block, (ad.add (k * 6)).off + 5, none⟩ = some (.int .u64 l3))
        ⟨HD.out, HB.out.drew, q1, q2, q3, q4, q5⟩ ?_
      rintro wx ⟨hDx, hBx, q1, q2, q3, q4, q5⟩
      have DX := Aside0.mk hDx
      have BX := Aside0.mk hBx
      clear hDx hBx HD HB
      repeat still_step
      refine wpStill_nil ?_
      go_wp2_with fail
      refine (inv_Put _ A p T m k DX.out HI.out (by omega) x1 HKS.out l0 l1 l2 l3).mono ?_
      rintro e w2' ⟨rfl, T2, m2, A2, _, hd2, hf, hs, hi2, hlk⟩
      have D2 := Aside0.mk hd2
      have I2 := Aside0.mk hi2
      have S2 := Aside0.mk (show ∀ i, A2 i → w.heap.size ≤ i from fun i hi => (hs i hi).elim (HA.out i) (fun h => Nat.le_trans BX.out.size h))
      have B2 := Aside0.mk (BX.out.trans (hf.below BX.out.size (fun i _ h => HA.out i h)))
      clear hf hd2 hi2 hlk hs HI HA q0 q1 q2 q3 q4 q5 BX DX
      have q1 := pw_cell_below B2.out QW.out
      go_wp2_with fail
      refine (inv_Far _ A2 p T2 m2 (k + 1) D2.out I2.out (by omega) x1 HKS.out).mono ?_
      rintro e w3 ⟨rfl, b3⟩
      have HF := Aside0.mk (farN_lt I2.out x1)
      obtain ⟨f, hf⟩ : ∃ f, farN T2 x1 = f := ⟨_, rfl⟩
      obtain ⟨sm, hsm⟩ : ∃ s, (lk T2 x1).isSome = s := ⟨_, rfl⟩
      rw [hf, hsm] at HF ⊢
      have B3 := Aside0.mk (B2.out.trans (b3.mono B2.out.size))
      have D3 := Aside0.mk (D2.out.below b3)
      clear hf hsm b3
      have f0 : decide ((f : Int) < 0) = false := decide_eq_false (by omega)
      obtain ⟨t2, ht2⟩ : ∃ t, T2.length = t := ⟨_, rfl⟩
      have HT2 := Aside0.mk ht2
      have f1 : f < t2 := by rw [← ht2]; exact HF.out.2.2
      clear ht2
      cases sm with
      | true =>
        have f2 : f < m2 := HF.out.1 rfl
        go_wp2_with fail
        refine (dir_Cap.calls _ A2 p T2 m2 D3.out).mono ?_
        rintro e w' ⟨rfl, rfl⟩
        rw [HT2.out]
        go_wp2_with fail
        refine (dir_Len.calls _ A2 p T2 m2 D3.out).mono ?_
        rintro e w' ⟨rfl, rfl⟩
        go_wp2_with fail
        go_roundw
        case measure => show n - ((k : Int) + 1).toNat < n - (k : Int).toNat; omega
        exact ⟨k + 1, by omega, rfl, ⟨⟨A2, T2, m2, D3.out, I2.out, S2.out⟩⟩, B3⟩
      | false =>
        have f3 : f = 0 := HF.out.2.1 rfl
        subst f3
        go_wp2_with fail
        refine (dir_Cap.calls _ A2 p T2 m2 D3.out).mono ?_
        rintro e w' ⟨rfl, rfl⟩
        rw [HT2.out]
        go_wp2_with fail
        go_roundw
        case measure => show n - ((k : Int) + 1).toNat < n - (k : Int).toNat; omega
        exact ⟨k + 1, by omega, rfl, ⟨⟨A2, T2, m2, D3.out, I2.out, S2.out⟩⟩, B3⟩
end Go.Proofs.Ytcpjfpbfopkngaa.Thw
