/- Layer 11: LruLast's walk. -/
import Derived.Test.YtoindlghpkjemaaEv11h
import Derived.Test.YtoindlghpkjemaaPlain11b
namespace Go.Proofs.Ytoindlghpkjemaa.Thw
open Go Go.RowKit Go.Proofs.YtoindlghpkjemaaW.PrintWords Go.Proofs.YtoindlghpkjemaaW.PrintLast Go.Proofs.YtoindlghpkjemaaW.PrintMore
set_option linter.unusedVariables false
set_option linter.unusedSimpArgs false
structure OpL where
  do_ : Int
  b : Bk
  s : ByteArray
def OpsL (W : World) (A : Option Addr) (n : Nat) (ops : Nat → OpL) : Prop :=
  ∀ i, i < n → ∃ ad, A = some ad ∧ W.cell? (ad.add (i * 4)) = some (.int .i64 (ops i).do_) ∧ W.cell? ⟨(ad.add (i * 4)).block, (ad.add (i * 4)).off + 1, none⟩ = some (.int .i64 (ops i).b.1) ∧ W.cell? ⟨(ad.add (i * 4)).block, (ad.add (i * 4)).off + 2, none⟩ = some (.int .i64 (ops i).b.2) ∧ W.cell? ⟨(ad.add (i * 4)).block, (ad.add (i * 4)).off + 3, none⟩ = some (.string (ops i).s)
theorem cells4' {w : World} {s : Nat} {v0 v1 v2 v3 : Value} {t : TypeId} (h : w.heap[s]? = some (.cells #[v0, v1, v2, v3] t)) :
    w.cell? ⟨s, 0, none⟩ = some v0 ∧ w.cell? ⟨s, 1, none⟩ = some v1 ∧ w.cell? ⟨s, 2, none⟩ = some v2 ∧ w.cell? ⟨s, 3, none⟩ = some v3 ∧ ∀ i, w.frozen? ⟨s, i, none⟩ = false := by
  refine ⟨?_, ?_, ?_, ?_, fun i => ?_⟩ <;> simp [World.cell?, World.frozen?, h]
/-- What holds at each round's head. -/
def LastRel (B : Nat) (most : Int) (mt p : Nat) (W : World) (used : List Bk) (A9 : Option Addr) : Prop :=
  ∃ A X T, CAt W A p X most ∧ LastInv X used T ∧ MapOf Try.prog 54 bkV Value.string W mt T ∧ ¬ A mt ∧ (∀ k, A k → B ≤ k) ∧ Kd.F kB W (fun k => ¬ A k ∧ k ≠ mt) A9 used.length used
def cutU (most : Int) (u : List Bk) : List Bk := if (u.length : Int) > most then u.drop 1 else u
/-- .. where the block has been used. -/
def MidRel (B : Nat) (most : Int) (mt p bx nb : Nat) (box : Obj) (next : List Bk) (b : Bk) (v12 : Value) (w W : World) : Prop :=
  ∃ A X T, CAt W A p X most ∧ LastInv X (cutU most (next ++ [b])) T ∧ MapOf Try.prog 54 bkV Value.string W mt T ∧ ¬ A mt ∧ (∀ k, A k → B ≤ k) ∧ kB.R 54 W nb (fun k => ¬ A k ∧ k ≠ mt) v12 next ∧ W.heap[bx]? = some box ∧ Below B w W ∧ ((cutU most (next ++ [b])).length : Int) ≤ most ∧ nb ≤ W.heap.size
theorem LastRel.below {B : Nat} {most : Int} {mt p : Nat} {W W' : World} {used : List Bk} {A9 : Option Addr} (h : LastRel B most mt p W used A9) (hb : Below W.heap.size W W') : LastRel B most mt p W' used A9 := by
  obtain ⟨A, X, T, h1, h2, h3, h4, h5, h6⟩ := h
  exact ⟨A, X, T, h1.below hb, h2, h3.frm (S := None') (Frm.of_new hb) (fun x => x), h4, h5, Kd.F_below h6 hb⟩
theorem LastRel.C {B : Nat} {most : Int} {mt p : Nat} {W : World} {used : List Bk} {A9 : Option Addr} (h : LastRel B most mt p W used A9) : kB.C W A9 used.length used := by
  obtain ⟨A, X, T, h1, h2, h3, h4, h5, h6⟩ := h
  exact Kd.F_now h6
set_option maxHeartbeats 12800000 in
set_option maxRecDepth 100000 in
theorem last_walk (most : Int) (A1 : Option Addr) (n c1 : Nat) (ops : Nat → OpL) (w : World) (hc : OpsL w A1 n ops) (hs : ∀ i, i < n → BkOk (ops i).b) (hn : n ≤ c1) :
    Calls Try.prog 7 #[.int .i64 most, .slice A1 n c1] w fun e w' => e = .returned (.bool true) ∧ Below w.heap.size w w' := by
  have hmm := @run_makeMap Try.prog
  have HC := Aside0.mk hc
  have HS := Aside0.mk hs
  clear hc hs
  go_enter Try.func7, Try.ntmps7
  go_wp2_with fail
  refine (awake11.calls _).mono ?_
  rintro e w1 ⟨rfl, b1⟩
  have B1 := Aside0.mk b1
  clear b1
  go_wp2_with fail
  refine (cat_New most _).mono ?_
  rintro e w2 (⟨hx, rfl, rfl⟩ | ⟨hmo, p, rfl, h2, b2⟩)
  · go_wp2_with fail
    go_ret
    exact ⟨rfl, B1.out⟩
  have Z1 := Aside0.mk B1.out.size
  have B2 := Aside0.mk (B1.out.trans (b2.mono B1.out.size))
  have H2 := Aside0.mk h2
  clear h2 b2
  by_cases h100 : 100 < n
  · have d100 : decide ((100 : Int) < (n : Int)) = true := decide_eq_true (by omega)
    go_wp2_with fail
    go_ret
    exact ⟨rfl, B2.out⟩
  have d100 : decide ((100 : Int) < (n : Int)) = false := decide_eq_false (by omega)
  have H3 := Aside0.mk (show LastRel w.heap.size most w2.heap.size p (w2.alloc (.map #[] 0)) [] none from
    ⟨_, [], [], H2.out.alloc _, ⟨rfl, by simp⟩, MapOf.made w2, fun x => by omega, fun k hk => Nat.le_trans Z1.out hk.1, Kd.F_nil _ _ _⟩)
  have B3 := Aside0.mk (B2.out.alloc B2.out.size (.map #[] 0))
  clear H2
  go_wp2_with fail
  go_loopw [9, 10] (fun v9 v10 wr => ∃ (k : Nat) (used : List Bk) (A9 : Option Addr) (c9 : Nat), k ≤ n ∧ v10 = .int .i64 k ∧ v9 = .slice A9 used.length c9 ∧ used.length ≤ c9 ∧ (used.length : Int) ≤ most ∧ Aside0 (LastRel w.heap.size most w2.heap.size p wr used A9) ∧ Aside0 (Below w.heap.size w wr)) (fun _ v10 _ => n - (intOf v10).toNat)
  case atStart => exact ⟨0, [], none, 0, Nat.zero_le _, rfl, rfl, Nat.le_refl _, by simp; omega, H3, B3⟩
  case round =>
    obtain ⟨k, used, A9, c9, hk, rfl, rfl, h9, h9m, HL, HB⟩ := hrel
    by_cases hkn : k < n
    case neg =>
      have dkn : decide ((k : Int) < (n : Int)) = false := decide_eq_false (by omega)
      go_wp2_with fail
      go_ret
      exact ⟨rfl, HB.out⟩
    have dkn : decide ((k : Int) < (n : Int)) = true := decide_eq_true (by omega)
    obtain ⟨ad, rfl, q0, q1, q2, q3⟩ := HC.out k hkn
    have HZ := Aside0.mk (HS.out k hkn)
    generalize ops k = o at q0 q1 q2 q3 HZ
    obtain ⟨x0, ⟨x1, x2⟩, x3⟩ := o
    simp only at q0 q1 q2 q3
    replace q0 := pw_cell_below HB.out q0
    replace q1 := pw_cell_below HB.out q1
    replace q2 := pw_cell_below HB.out q2
    replace q3 := pw_cell_below HB.out q3
    have p0 : 0 ≤ (k : Int) := by omega
    obtain ⟨wb, hwb⟩ : ∃ wb, wr.alloc (.cells #[.int .i64 x0, .int .i64 x1, .int .i64 x2, .string x3] 56) = wb := ⟨_, rfl⟩
    obtain ⟨A, X, T, hCA, hLI, hMT, hmtA, hloA, hFA⟩ := HL.out
    have HOLD := Aside0.mk hCA.old
    have HCA := Aside0.mk (show CAt wb A p X most by rw [← hwb]; exact hCA.alloc _)
    have HMT := Aside0.mk (show MapOf Try.prog 54 bkV Value.string wb w2.heap.size T by rw [← hwb]; exact hMT.alloc _)
    have HFA := Aside0.mk (show Kd.F kB wb (fun k => ¬ A k ∧ k ≠ w2.heap.size) A9 used.length used by rw [← hwb]; exact Kd.F_alloc hFA _)
    have HLI := Aside0.mk hLI
    have HMA := Aside0.mk hmtA
    have HLO := Aside0.mk hloA
    have HIS := Aside0.mk (hLI.is hCA.lim.2.2.1 (x1, x2))
    have HNL := Aside0.mk (nextU_length (hLI.nodup hCA.lim.2.2.1) (x1, x2))
    clear hCA hLI hMT hmtA hloA hFA
    have HLb := Aside0.mk (show LastRel w.heap.size most w2.heap.size p wb used A9 by rw [← hwb]; exact HL.out.below ((Below.refl _ _).alloc (Nat.le_refl _) _))
    have HBb := Aside0.mk (show Below w.heap.size w wb by rw [← hwb]; exact HB.out.alloc HB.out.size _)
    have hxb : wb.heap[wr.heap.size]? = some (.cells #[.int .i64 x0, .int .i64 x1, .int .i64 x2, .string x3] 56) := by rw [← hwb]; exact blk_new _ _
    have XB := Aside0.mk hxb
    have HWB := Aside0.mk hwb
    clear hxb hwb
    go_upto_region 11 with (fail)
    rw [HWB.out]
    obtain ⟨bx, hbx⟩ : ∃ bx, wr.heap.size = bx := ⟨_, rfl⟩
    rw [hbx] at XB HOLD ⊢
    have HBX := Aside0.mk (show bx < wb.heap.size from blk_lt XB.out)
    clear hbx HWB
    clear q0 q1 q2 q3 HL HB H3 B3
    go_wp2_with fail
    go_loopw [12, 13] (fun v12 v13 wq => ∃ j : Nat, j ≤ used.length ∧ v13 = .int .i64 j ∧ Aside0 (kB.R 54 wq wb.heap.size (fun _ => True) v12 (nextU (used.take j) (x1, x2))) ∧ Aside0 (Below wb.heap.size wb wq)) (fun _ v13 _ => used.length - (intOf v13).toNat)
    case atStart => exact ⟨0, Nat.zero_le _, rfl, ⟨Kd.R_nil _ _ _ _ _⟩, ⟨Below.refl _ _⟩⟩
    case round =>
      obtain ⟨j, hj, rfl, HR, HQ⟩ := hrel
      obtain ⟨A12, c12, rfl⟩ := Kd.R_slice HR.out
      by_cases hjn : j < used.length
      · have djn : decide ((j : Int) < (used.length : Int)) = true := decide_eq_true (by omega)
        obtain ⟨ad9, rfl, u0, u1⟩ := C_bkAt ((HLb.out.below HQ.out).C) hjn
        have hsucc := nextU_take_succ used (x1, x2) hjn
        have hlen : (nextU (used.take j) (x1, x2)).length ≤ j := by
          have h1 := List.length_filter_le (fun b : Bk => decide (b ≠ (x1, x2))) (used.take j)
          unfold nextU
          simp at h1 ⊢; omega
        generalize used[j] = ub at u0 u1 hsucc
        obtain ⟨ub1, ub2⟩ := ub
        have U0 := Aside0.mk u0
        have U1 := Aside0.mk u1
        have y0 : 0 ≤ (j : Int) := by omega
        have y1 : (j : Int) < (used.length : Int) := by omega
        have HSU := Aside0.mk hsucc
        have XQ := Aside0.mk (blk_below XB.out HQ.out)
        clear u0 u1 hsucc
        go_upto_region 15 with (fail)
        refine region_still (by kernel_rfl) (by kernel_rfl) (fun W => W.cell? (ad9.add (j * 2)) = some (.int .i64 ub1) ∧ W.cell? ⟨(ad9.add (j * 2)).block, (ad9.add (j * 2)).off + 1, none⟩ = some (.int .i64 ub2) ∧ W.heap[bx]? = some (.cells #[.int .i64 x0, .int .i64 x1, .int .i64 x2, .string x3] 56) ∧ Below wb.heap.size wb W ∧ kB.R 54 W wb.heap.size (fun _ => True) (.slice A12 (nextU (used.take j) (x1, x2)).length c12) (nextU (used.take j) (x1, x2)))
          ⟨U0.out, U1.out, blk_drew XQ.out, HQ.out.drew, Kd.R_drew HR.out⟩ ?_
        rintro w3 ⟨u0, u1, x3', b3, r3⟩
        obtain ⟨d0, d1, d2, d3, dr⟩ := cells4' x3'
        have X3 := Aside0.mk x3'
        have B3 := Aside0.mk b3
        have R3 := Aside0.mk r3
        clear x3' b3 r3
        obtain ⟨rr, hrr, heq⟩ := eqBkR (ub1, ub2) (x1, x2)
        have HRR := Aside0.mk hrr
        simp only at heq
        clear hrr
        repeat still_step
        refine wpStill_nil ?_
        clear heq
        rcases Bool.eq_false_or_eq_true rr with rfl | rfl
        · have heqv : (ub1, ub2) = (x1, x2) := of_decide_eq_true HRR.out.symm
          have hnx : nextU (used.take (j + 1)) (x1, x2) = nextU (used.take j) (x1, x2) := by rw [HSU.out, if_neg (fun h => h heqv)]
          have HNX := Aside0.mk hnx
          clear hnx heqv d0 d1 d2 d3 dr u0 u1
          go_wp2_with fail
          go_roundw
          case rel => exact ⟨j + 1, by omega, by go_num, by rw [HNX.out]; exact R3, B3⟩
          case measure => simp [intOf]; omega
        · have hne : (ub1, ub2) ≠ (x1, x2) := of_decide_eq_false HRR.out.symm
          have hnx : nextU (used.take (j + 1)) (x1, x2) = nextU (used.take j) (x1, x2) ++ [(ub1, ub2)] := by rw [HSU.out, if_pos hne]
          have HNX := Aside0.mk hnx
          clear hnx hne d0 d1 d2 d3 dr
          go_wp2_with (at_builtin; refine Kd.R_append kB (w0 := wb) wb.heap.size rfl (.tmp 64) (.tmp 69) 62 54 (.agg #[.int .i64 0, .int .i64 0]) 16 rfl Try.underlying62 infoB rfl (by decide) (by omega) (.slice A12 (nextU (used.take j) (x1, x2)).length c12) (nextU (used.take j) (x1, x2)) (ub1, ub2) [.int .i64 ub1, .int .i64 ub2] (fun _ => True) (fun _ => False) rfl rfl (kB_M _ _ _ (ub1, ub2)) (fun _ hk => hk.elim) (fun _ _ => trivial) R3.out B3.out B3.out.size (by omega) ?_; intro v1 w5 hR hB hg hat; obtain ⟨A6, c6, rfl⟩ := Kd.R_slice hR; have HR5 := Aside0.mk hR; have HB5 := Aside0.mk hB; clear hR hB hg hat)
          go_roundw
          case rel => exact ⟨j + 1, by omega, by go_num, by rw [HNX.out]; simpa using HR5, HB5⟩
          case measure => simp [intOf]; omega
      · have djn : decide ((j : Int) < (used.length : Int)) = false := decide_eq_false (by omega)
        have hjj : j = used.length := by omega
        subst hjj
        rw [List.take_length] at HR ⊢
        have HLq := Aside0.mk (HLb.out.below HQ.out)
        have HBq := Aside0.mk (HBb.out.trans (HQ.out.mono HBb.out.size))
        have XQ := Aside0.mk (blk_below XB.out HQ.out)
        have RQ := Aside0.mk (Kd.R_mono (Kd.R_bound HR.out) (fun k hk => (⟨hk.2.1, hk.2.2.1⟩ : wb.heap.size ≤ k ∧ k < wr.heap.size)))
        have HWB := Aside0.mk (show w.heap.size ≤ wb.heap.size from HBb.out.size)
        clear HR
        obtain ⟨d0, d1, d2, d3, dr⟩ := cells4' XQ.out
        obtain ⟨isv, hisv⟩ : ∃ b, decide ((nextU used (x1, x2)).length < used.length) = b := ⟨_, rfl⟩
        have HISV := Aside0.mk (show (look X (x1, x2)).isSome = isv by
          rw [HIS.out, ← hisv])
        have HCq := Aside0.mk (HCA.out.below HQ.out)
        have HMq := Aside0.mk (HMT.out.frm (S := None') (Frm.of_new HQ.out) (fun x => x))
        have RQ2 := Aside0.mk (show kB.R 54 wr wb.heap.size (fun k => (¬ A k ∧ k ≠ w2.heap.size) ∧ k < wr.heap.size) (.slice A12 (nextU used (x1, x2)).length c12) (nextU used (x1, x2)) from
          Kd.R_mono (Kd.R_bound RQ.out) (fun k hk => ⟨⟨fun ha => by have := HCA.out.old k ha; omega, fun e => by have := HMT.out.lt; omega⟩, hk.2.2.1⟩))
        go_upto_if 78 with (fail)
        go_cut [] from 71 to 112 (fun wx => Aside0 (MidRel w.heap.size most w2.heap.size p bx wb.heap.size (.cells #[.int .i64 x0, .int .i64 x1, .int .i64 x2, .string x3] 56) (nextU used (x1, x2)) (x1, x2) (.slice A12 (nextU used (x1, x2)).length c12) w wx))
        case first =>
          by_cases hx0 : x0 < 2
          · have dx0 : decide (x0 < 2) = true := decide_eq_true hx0
            go_wp2_with fail
            refine (cat_Get HCq.out (x1, x2) HZ.out).mono ?_
            rintro e w3 ⟨rfl, h3, f3⟩
            cases hl : look X (x1, x2) with
            | none =>
              have hv : isv = false := by rw [← HISV.out, hl]; rfl
              subst hv
              have H3 := Aside0.mk h3
              have F3 := Aside0.mk f3
              have HLN := Aside0.mk hl
              simp only [Option.getD_none, Option.isSome_none]
              clear h3 f3 hl d0 d1 d2 d3 dr
              obtain ⟨d0, d1, d2, d3, dr⟩ := cells4' (F3.out.keeps XQ.out (fun ha => by have := HOLD.out _ ha; omega))
              go_wp2_with fail
              go_roundw
              case rel =>
                refine ⟨k + 1, used, A9, c9, by omega, by go_num, rfl, h9, h9m, ⟨nA A wr w3, getD2 X (x1, x2), T, H3.out, ?_, HMq.out.frm F3.out HMA.out, nA_not HMA.out HMq.out.lt, nA_lo HLO.out HBq.out.size, ?_⟩, ⟨HBq.out.trans (F3.out.below HBq.out.size (fun i _ hi => HLO.out i hi))⟩⟩
                · have e : getD2 X (x1, x2) = X := by simp [getD2, HLN.out]
                  rw [e]; exact HLI.out
                · have h1 := Kd.F_below HFA.out HQ.out
                  have h2 := Kd.F_step (Kd.F_bound h1) (fun i hi hlt => F3.out.block i hlt hi.1.1)
                  exact Kd.F_mono h2 (fun i hi => ⟨nA_not hi.1.1 hi.2, hi.1.2⟩)
              case measure => simp [intOf]; omega
            | some s =>
              have hv : isv = true := by rw [← HISV.out, hl]; rfl
              subst hv
              have HLS := Aside0.mk hl
              obtain ⟨hg1, hg2⟩ := HLI.out.get hl
              have G1 := Aside0.mk hg1
              have H3 := Aside0.mk h3
              have F3 := Aside0.mk f3
              have hM3 := HMq.out.frm F3.out HMA.out
              have hlk := MapOf.at_found bkInj bkKeyed hM3 Try.underlying68 (bkOk _ HZ.out) (zeroStr w3) hg2
              simp only [bkV] at hlk
              have HM3 := Aside0.mk hM3
              simp only [Option.getD_some, Option.isSome_some]
              clear h3 f3 hl d0 d1 d2 d3 dr hg1 hg2 hM3
              have hx3 := F3.out.keeps XQ.out (fun ha => by have := HOLD.out _ ha; omega)
              obtain ⟨d0, d1, d2, d3, dr⟩ := cells4' hx3
              have HX3 := Aside0.mk hx3
              clear hx3
              go_wp2_with fail
              go_meet
              case rel =>
                have hlen : (nextU used (x1, x2) ++ [(x1, x2)]).length ≤ used.length := by
                  have h1 := HNL.out
                  have h2 := HIS.out
                  rw [HLS.out] at h2
                  have h3 : (nextU used (x1, x2)).length < used.length := of_decide_eq_true (by simpa using h2.symm)
                  simp; omega
                have hcu : cutU most (nextU used (x1, x2) ++ [(x1, x2)]) = nextU used (x1, x2) ++ [(x1, x2)] := by
                  unfold cutU; rw [if_neg (by omega)]
                refine ⟨nA A wr w3, getD2 X (x1, x2), T, H3.out, by rw [hcu]; exact G1.out, HM3.out, nA_not HMA.out HMq.out.lt, nA_lo HLO.out HBq.out.size, ?_, HX3.out, HBq.out.trans (F3.out.below HBq.out.size (fun i _ hi => HLO.out i hi)), by rw [hcu]; omega, Nat.le_trans HQ.out.size F3.out.size⟩
                exact Kd.R_mono (Kd.R_step RQ2.out (fun i hi hlt => F3.out.block i hlt hi.1.1)) (fun i hi => ⟨nA_not hi.1.1 hi.2, hi.1.2⟩)
          · have dx0 : decide (x0 < 2) = false := decide_eq_false hx0
            go_wp2_with fail
            refine (cat_Put HCq.out (x1, x2) HZ.out x3).mono ?_
            rintro e w3 ⟨rfl, h3, f3⟩
            have H3 := Aside0.mk h3
            have F3 := Aside0.mk f3
            have HM3 := Aside0.mk (HMq.out.frm F3.out HMA.out)
            clear h3 f3 d0 d1 d2 d3 dr
            have hx3 := F3.out.keeps XQ.out (fun ha => by have := HOLD.out _ ha; omega)
            obtain ⟨d0, d1, d2, d3, dr⟩ := cells4' hx3
            have HX3 := Aside0.mk hx3
            clear hx3
            go_wp2_with (refine wpList_mapUpdate_of bkInj bkKeyed w3 rfl (.tmp 108) (.tmp 110) (.tmp 112) 68 9 rfl Try.underlying68 w2.heap.size T rfl HM3.out (x1, x2) rfl (bkOk _ HZ.out) x3 rfl ?_; rintro w6 m6 f6 z6; have M6 := Aside0.mk m6; have F6 := Aside0.mk f6; clear m6 f6)
            simp only [Act.put]
            go_meet
            case rel =>
              have hz : w3.heap.size ≤ w6.heap.size := F6.out.size
              refine ⟨nA A wr w3, putD X most (x1, x2) x3, put T (x1, x2) x3, H3.out.frm F6.out (fun i _ hi e => by rw [e] at hi; exact nA_not HMA.out HMq.out.lt hi), HLI.out.put (by omega) h9m (x1, x2) x3, M6.out, nA_not HMA.out HMq.out.lt, nA_lo HLO.out HBq.out.size, ?_, F6.out.keeps HX3.out (fun e => by have := HMA.out; have := HMT.out; have h1 := XQ.out; rw [e] at h1; exact HMq.out.not_cells h1), (HBq.out.trans (F3.out.below HBq.out.size (fun i _ hi => HLO.out i hi))).trans (F6.out.below (by have := HBq.out.size; have := F3.out.size; omega) (fun i _ e => by have := Z1.out; have := B2.out.size; omega)), ?_, by have := HQ.out.size; have := F3.out.size; omega⟩
              · exact Kd.R_step (Kd.R_mono (Kd.R_step RQ2.out (fun i hi hlt => F3.out.block i hlt hi.1.1)) (fun i hi => (⟨nA_not hi.1.1 hi.2, hi.1.2⟩ : ¬ nA A wr w3 i ∧ i ≠ w2.heap.size))) (fun i hi hlt => F6.out.block i hlt hi.2)
              · have h1 := HNL.out
                have h2 : (nextU used (x1, x2)).length ≤ used.length := by omega
                unfold cutU
                split
                · simp; omega
                · omega
        case rest =>
          clear d0 d1 d2 d3 dr
          obtain ⟨A', X', T', hC, hI, hM, hmt, hlo, hR, hx, hB, hlenU, hnb⟩ := hcut.out
          have C5 := Aside0.mk hC
          have I5 := Aside0.mk hI
          have M5 := Aside0.mk hM
          have MT5 := Aside0.mk hmt
          have LO5 := Aside0.mk hlo
          have R5 := Aside0.mk hR
          have B5 := Aside0.mk hB
          have LU5 := Aside0.mk hlenU
          have NB5 := Aside0.mk hnb
          obtain ⟨d0, d1, d2, d3, dr⟩ := cells4' hx
          have hnx : (nextU used (x1, x2)).length ≤ 64 := by have h1 := HNL.out; omega
          obtain ⟨u, hu⟩ : ∃ u, cutU most (nextU used (x1, x2) ++ [(x1, x2)]) = u := ⟨_, rfl⟩
          have HU := Aside0.mk hu
          rw [hu] at I5 LU5
          clear hcut hC hI hM hmt hlo hR hx hB hlenU hnb hu
          obtain ⟨nx, hnxe⟩ : ∃ nx, nextU used (x1, x2) = nx := ⟨_, rfl⟩
          rw [hnxe] at R5 HU hnx ⊢
          have HNXE := Aside0.mk hnxe
          clear hnxe
          go_upto_if 121 with (at_builtin; refine Kd.R_append kB (w0 := wc) wb.heap.size rfl (.tmp 113) (.tmp 116) 62 54 (.agg #[.int .i64 0, .int .i64 0]) 16 rfl Try.underlying62 infoB rfl (by decide) (by omega) (.slice A12 nx.length c12) nx (x1, x2) [.int .i64 x1, .int .i64 x2] (fun k => ¬ A' k ∧ k ≠ w2.heap.size) (fun _ => False) rfl rfl (kB_M _ _ _ (x1, x2)) (fun _ hk => hk.elim) (fun k hk => ⟨fun ha => by have := C5.out.old k ha; omega, fun e => by have := M5.out.lt; omega⟩) R5.out (Below.refl _ _) NB5.out (by omega) ?_; intro v1 w5 hR hB hg hat; obtain ⟨A6, c6, rfl, hc6, _⟩ := Kd.R_reads hR; have HR6 := Aside0.mk hR; have HB6 := Aside0.mk hB; have HF6 := Aside0.mk (show Frm (fun k => ¬ A' k ∧ k ≠ w2.heap.size) wc w5 from ⟨hg.os, hg.tape, hg.output, hg.size, fun k hk hn => hg.block k hk (fun e => hn (R5.out.1 k e.symm))⟩); clear hR hB hg hat)
          have hsl : (nx ++ [((x1, x2) : Bk)]).length = nx.length + 1 := by simp
          rw [hsl] at hc6
          have HSL := Aside0.mk hsl
          clear hsl d0 d1 d2 d3 dr
          go_cut [9] from 113 to 123 (fun s9 wx => wx = w5 ∧ ∃ A10 c10, s9 = .slice A10 u.length c10 ∧ u.length ≤ c10 ∧ Aside0 (Kd.F kB w5 (fun k => ¬ A' k ∧ k ≠ w2.heap.size) A10 u.length u))
          case first =>
            have HF5 := Aside0.mk (Kd.R_F HR6.out)
            by_cases hgt : most < ((nx.length : Int) + 1)
            · have dgt : decide (most < ((nx.length : Int) + 1)) = true := decide_eq_true hgt
              have hue : u = (nx ++ [((x1, x2) : Bk)]).drop 1 := by
                rw [← HU.out]; unfold cutU; rw [if_pos (by rw [HSL.out]; omega)]
              have hul : u.length = nx.length := by rw [hue]; simp
              obtain ⟨i0, hi0, hz0, hz1, hz2⟩ := info_parts infoB
              have hcut := cut_from (P := Try.prog) 62 54 .i64 Try.underlying62 hi0 2 hz1 A6 (nx.length + 1) c6 1 (by omega) (by omega)
              have hFc := Kd.F_cut (m := 1) HF5.out (by rw [HSL.out]; omega) (by rw [HSL.out]; exact hc6)
              have hsz : kB.sz = 2 := rfl
              rw [hsz] at hFc
              simp only [show (1 : Int).toNat = 1 from rfl] at hcut
              obtain ⟨A10, hA10⟩ : ∃ A10, (if c6 = 1 then A6 else A6.map (·.add (1 * 2))) = A10 := ⟨_, rfl⟩
              rw [hA10] at hcut hFc
              rw [← hue] at hFc
              simp only [Nat.add_sub_cancel] at hcut
              have HFC := Aside0.mk hFc
              have HUE := Aside0.mk hul
              clear hFc hA10 hue hi0 hz0 hz1 hz2 hsz hul
              go_wp2_with fail
              go_meet
              case rel => exact ⟨rfl, A10, c6 - 1, by rw [HUE.out], by rw [HUE.out]; omega, HFC⟩
            · have dgt : decide (most < ((nx.length : Int) + 1)) = false := decide_eq_false hgt
              have hue : u = nx ++ [((x1, x2) : Bk)] := by
                rw [← HU.out]; unfold cutU; rw [if_neg (by rw [HSL.out]; omega)]
              have HUE := Aside0.mk hue
              clear hue
              go_wp2_with fail
              go_meet
              case rel => exact ⟨rfl, A6, c6, by rw [HUE.out, HSL.out], by rw [HUE.out, HSL.out]; exact hc6, ⟨by rw [HUE.out]; exact HF5.out⟩⟩
          case rest =>
            obtain ⟨rfl, A10, c10, rfl, hc10, HF10⟩ := hcut
            have HC5 := Aside0.mk (C5.out.frm HF6.out (fun i _ hi hn => hn.1 hi))
            have HM5 := Aside0.mk (M5.out.frm HF6.out (fun hn => hn.2 rfl))
            have hB5 : Below w.heap.size w wc := by
              refine B5.out.trans (HB6.out.mono HWB.out)
            have HB5' := Aside0.mk hB5
            have hul : u.length ≤ 64 := by have := LU5.out; omega
            have hkl : keysOf X' = u.reverse := I5.out.keys
            have HKL := Aside0.mk hkl
            clear hB5 hkl
            go_wp2_with fail
            refine (cat_Blocks HC5.out).mono ?_
            rintro e w6 ⟨v, rfl, hR, hB⟩
            rw [HKL.out] at hR
            obtain ⟨A7, c7, rfl, hc7, hC7⟩ := Kd.R_reads hR
            have R7 := Aside0.mk hC7
            have B7 := Aside0.mk hB
            have F7 := Aside0.mk (Kd.F_below HF10.out hB)
            have HC6 := Aside0.mk (HC5.out.below hB)
            have HM6 := Aside0.mk (HM5.out.frm (S := None') (Frm.of_new hB) (fun x => x))
            have BB6 := Aside0.mk (HB5'.out.trans (hB.mono HB5'.out.size))
            have hrl : u.reverse.length = u.length := List.length_reverse
            rw [hrl] at hc7 ⊢
            have HRL := Aside0.mk hrl
            clear hR hB hC7 hrl
            go_wp2_with fail
            go_loopw [18] (fun v18 wq => ∃ j : Nat, j ≤ u.length ∧ v18 = .int .i64 j ∧ Aside0 (Below w6.heap.size w6 wq)) (fun v18 _ => u.length - (intOf v18).toNat)
            case atStart => exact ⟨0, Nat.zero_le _, rfl, ⟨Below.refl _ _⟩⟩
            case round =>
              obtain ⟨j, hj, rfl, HQ7⟩ := hrel
              by_cases hjn : j < u.length
              · have djn : decide ((j : Int) < (u.length : Int)) = true := decide_eq_true (by omega)
                obtain ⟨ad7, rfl, u0, u1⟩ := C_bkAt (k := j) (Kd.C_below R7.out HQ7.out) (by rw [HRL.out]; exact hjn)
                obtain ⟨ad8, rfl, z0, z1⟩ := C_bkAt (k := u.length - 1 - j) (Kd.F_now (Kd.F_below F7.out HQ7.out)) (by omega)
                have hsame : u.reverse[j]'(by rw [HRL.out]; exact hjn) = u[u.length - 1 - j]'(by omega) := by rw [List.getElem_reverse]
                rw [hsame] at u0 u1
                generalize u[u.length - 1 - j]'(by omega) = ub at u0 u1 z0 z1
                obtain ⟨ub1, ub2⟩ := ub
                simp only at u0 u1 z0 z1
                obtain ⟨m, hm⟩ : ∃ m : Nat, u.length - 1 - j = m := ⟨_, rfl⟩
                rw [hm] at z0 z1
                have U0 := Aside0.mk u0
                have U1 := Aside0.mk u1
                have ZZ0 := Aside0.mk z0
                have ZZ1 := Aside0.mk z1
                have s1 : IntKind.i64.wrap ((u.length : Int) - 1) = (u.length : Int) - 1 := IntWalk.i64_in _ (by omega)
                have s2 : IntKind.i64.wrap ((u.length : Int) - 1 - (j : Int)) = (m : Int) := by rw [IntWalk.i64_in _ (by omega)]; omega
                have y0 : 0 ≤ (j : Int) := by omega
                have y1 : (j : Int) < (u.length : Int) := by omega
                have y2 : 0 ≤ (m : Int) := by omega
                have y3 : (m : Int) < (u.length : Int) := by omega
                clear u0 u1 z0 z1 hsame
                go_upto_region 34 with (fail)
                refine region_still (by kernel_rfl) (by kernel_rfl) (fun W => W.cell? (ad7.add (j * 2)) = some (.int .i64 ub1) ∧ W.cell? ⟨(ad7.add (j * 2)).block, (ad7.add (j * 2)).off + 1, none⟩ = some (.int .i64 ub2) ∧ W.cell? (ad8.add (m * 2)) = some (.int .i64 ub1) ∧ W.cell? ⟨(ad8.add (m * 2)).block, (ad8.add (m * 2)).off + 1, none⟩ = some (.int .i64 ub2) ∧ Below w6.heap.size w6 W)
                  ⟨U0.out, U1.out, ZZ0.out, ZZ1.out, HQ7.out.drew⟩ ?_
                rintro w9 ⟨u0, u1, z0, z1, b9⟩
                have B9 := Aside0.mk b9
                have heq := fun d w => eqBk d w ub1 ub2 ub1 ub2
                clear b9 hm
                repeat still_step
                refine wpStill_nil ?_
                clear heq u0 u1 z0 z1 s1 s2
                go_wp2_with fail
                go_roundw
                case rel => exact ⟨j + 1, by omega, by go_num, B9⟩
                case measure => simp [intOf]; omega
              · have djn : decide ((j : Int) < (u.length : Int)) = false := decide_eq_false (by omega)
                go_wp2_with fail
                go_roundw
                case rel =>
                  refine ⟨k + 1, u, A10, c10, by omega, by go_num, rfl, hc10, LU5.out, ⟨A', X', T', HC6.out.below HQ7.out, I5.out, HM6.out.frm (S := None') (Frm.of_new HQ7.out) (fun x => x), MT5.out, LO5.out, Kd.F_below F7.out HQ7.out⟩, ⟨BB6.out.trans (HQ7.out.mono BB6.out.size)⟩⟩
                case measure => simp [intOf]; omega
end Go.Proofs.Ytoindlghpkjemaa.Thw
