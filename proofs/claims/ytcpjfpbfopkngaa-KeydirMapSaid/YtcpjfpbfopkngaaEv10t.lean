/- Layer 10: KeydirMap's walk (printed by gen10t.py). -/
import Derived.Test.YtcpjfpbfopkngaaEv10s
namespace Go.Proofs.Ytcpjfpbfopkngaa.Thw
open Go Go.RowKit Go.Proofs.YtcpjfpbfopkngaaW.PrintWords Go.Proofs.YtcpjfpbfopkngaaW.PrintLast Go.Proofs.YtcpjfpbfopkngaaW.PrintMore
set_option linter.unusedVariables false
set_option linter.unusedSimpArgs false
abbrev Want := List (ByteArray × Loc4)
abbrev MapL (w : World) (b : Nat) (m : Want) : Prop := MapOf Try.prog 9 Value.string LocV w b m
theorem mapL_nodup {w : World} {b : Nat} {m : Want} (h : MapL w b m) : (m.map (·.1)).Nodup := MapOf.nodup h
theorem want_perm {T : List Slt} {m b : Nat} {want : Want} (hi : Inv T m b) (hn : (want.map (·.1)).Nodup) (hl : ∀ k, look want k = lk T k) : ∀ p, p ∈ want ↔ p ∈ (liv T).map kvS := by
  intro p
  have h2 : (((liv T).map kvS).map (·.1)).Nodup := by rw [kvS_fst]; exact liv_nodup rfl hi.good
  rw [show p = (p.1, p.2) from rfl, ← look_iff hn, hl, show lk T p.1 = look ((liv T).map kvS) p.1 from rfl, look_iff h2]
theorem nodup_of_fst {α : Type} {m : List (ByteArray × α)} (h : (m.map (·.1)).Nodup) : m.Nodup := by
  unfold List.Nodup at h ⊢
  rw [List.pairwise_map] at h
  exact h.imp fun hab e => hab (by rw [e])
theorem want_length {T : List Slt} {m b : Nat} {want : Want} (hi : Inv T m b) (hn : (want.map (·.1)).Nodup) (hl : ∀ k, look want k = lk T k) : want.length = m := by
  have h2 : (((liv T).map kvS).map (·.1)).Nodup := by rw [kvS_fst]; exact liv_nodup rfl hi.good
  have hp := want_perm hi hn hl
  have h3 := length_le_of_mem want _ (nodup_of_fst hn) (fun p h => (hp p).1 h)
  have h4 := length_le_of_mem _ want (nodup_of_fst h2) (fun p h => (hp p).2 h)
  rw [List.length_map, ← cnt_liv, hi.many] at h3 h4
  omega
def MapRel (B p mt k : Nat) (W : World) : Prop :=
  ∃ A T m want, DirAt W A p T (m : Nat) ∧ Inv T m k ∧ (∀ i, A i → B ≤ i ∧ i ≠ mt) ∧ MapL W mt want ∧ ∀ k', look want k' = lk T k'
theorem zeroLoc (w : World) : (zeroValue 31).run Try.prog w = .ok (LocV zL) w := by kernel_rfl
theorem lookL {w : World} {b : Nat} {m : Want} (h : MapL w b m) {T : List Slt} (hl : ∀ k', look m k' = lk T k') {k : ByteArray} (hk : k.size ≤ 100) :
    (Instr.lookup 51 (.map (some b)) (.string k) true).run Try.prog w = .ok (.tuple #[LocV (lkV T k), .bool (lk T k).isSome]) w := by
  rw [MapOf.lookup strInj strKeyed h Try.underlying51 (strOk (by omega)) (zeroLoc w) true, hl]
  unfold lkV
  cases lk T k <;> rfl
theorem C_strAt {w : World} {A : Option Addr} {xs : List ByteArray} (h : Kd.C Kd.string w A xs.length xs) {k : Nat} (hk : k < xs.length) : ∃ ad, A = some ad ∧ w.cell? (ad.add k) = some (.string xs[k]) := by
  obtain ⟨ad, c, e, hl, hK, hc⟩ := ReadsRow.get_ h ⟨#[]⟩ (k : Int) (by omega) (by omega)
  have hx : xs.getD k ⟨#[]⟩ = xs[k] := by simp [hk, List.getD_eq_getElem?_getD]
  have h1 : c = [Value.string (xs.getD k ⟨#[]⟩)] := hK
  rw [hx] at h1
  subst h1
  have hc' : ∀ (j : Nat) u, ([Value.string xs[k]] : List Value)[j]? = some u → w.cell? (ad.add (k * 1 + j)) = some u := hc
  refine ⟨ad, e, ?_⟩
  have h2 := hc' 0 _ rfl
  rwa [Nat.add_zero, Nat.mul_one] at h2
theorem kL_K {w : World} {x : Loc4} {cs : List Value} (h : kL.K w x cs) : cs = [.int .i64 x.1, .int .i64 x.2.1, .int .i64 x.2.2.1, .int .u64 x.2.2.2] := by
  obtain ⟨c0, c1, rfl, h0, ⟨c2, c3, rfl, h2, ⟨c4, c5, rfl, h4, h5⟩⟩⟩ := h
  have h0' : c0 = [Value.int .i64 x.1] := h0
  have h2' : c2 = [Value.int .i64 x.2.1] := h2
  have h4' : c4 = [Value.int .i64 x.2.2.1] := h4
  have h5' : c5 = [Value.int .u64 x.2.2.2] := h5
  subst h0' h2' h4' h5'
  rfl
theorem C_locAt {w : World} {A : Option Addr} {xs : List Loc4} (h : kL.C w A xs.length xs) {k : Nat} (hk : k < xs.length) : ∃ ad, A = some ad ∧ w.cell? (ad.add (k * 4)) = some (.int .i64 xs[k].1) ∧ w.cell? ⟨(ad.add (k * 4)).block, (ad.add (k * 4)).off + 1, none⟩ = some (.int .i64 xs[k].2.1) ∧ w.cell? ⟨(ad.add (k * 4)).block, (ad.add (k * 4)).off + 2, none⟩ = some (.int .i64 xs[k].2.2.1) ∧
    w.cell? ⟨(ad.add (k * 4)).block, (ad.add (k * 4)).off + 3, none⟩ = some (.int .u64 xs[k].2.2.2) := by
  obtain ⟨ad, c, e, hl, hK, hc⟩ := ReadsRow.get_ h zL (k : Int) (by omega) (by omega)
  have hx : xs.getD k zL = xs[k] := by simp [hk, List.getD_eq_getElem?_getD]
  have h1 : c = [.int .i64 xs[k].1, .int .i64 xs[k].2.1, .int .i64 xs[k].2.2.1, .int .u64 xs[k].2.2.2] := by
    rw [← hx]
    exact kL_K hK
  subst h1
  have hc' : ∀ (j : Nat) u, ([.int .i64 xs[k].1, .int .i64 xs[k].2.1, .int .i64 xs[k].2.2.1, .int .u64 xs[k].2.2.2] : List Value)[j]? = some u → w.cell? (ad.add (k * 4 + j)) = some u := hc
  exact ⟨ad, e, hc' 0 _ rfl, by rw [← add_field _ _ 1 (by omega)]; exact hc' 1 _ rfl, by rw [← add_field _ _ 2 (by omega)]; exact hc' 2 _ rfl, by rw [← add_field _ _ 3 (by omega)]; exact hc' 3 _ rfl⟩
theorem onB_all (s : Slt) : onB ⟨#[]⟩ s = true := by
  unfold onB
  rw [lessD]
  simp
theorem filter_all (L : List Slt) : L.filter (onB ⟨#[]⟩) = L := List.filter_eq_self.2 fun s _ => onB_all s
/-- One behind another: the keys rise. -/
theorem ris_less {T L : List Slt} {m b : Nat} (hr : Ris T L) (hi : Inv T m b) {i j : Nat} (hij : i < j) (hj : j < L.length) : Op.bytesLess L[i].1.toList L[j].1.toList = true := by
  rw [lessD]
  refine decide_eq_true ?_
  have h1 := List.pairwise_iff_getElem.1 hr.2 i j (by omega) hj hij
  have h2 := ris_nodup hr rfl hi.good
  unfold List.Nodup at h2
  rw [List.pairwise_map] at h2
  have h3 := List.pairwise_iff_getElem.1 h2 i j (by omega) hj hij
  rcases List.le_iff_lt_or_eq.1 (List.not_lt.1 h1) with h4 | h4
  · exact h4
  · exact absurd (ByteArray.ext (Array.ext' h4)) h3
theorem ris_lk {T L : List Slt} {m b : Nat} (hr : Ris T L) (hi : Inv T m b) {j : Nat} (hj : j < L.length) : lk T L[j].1 = some L[j].2.1 ∧ L[j].1.size ≤ 100 := by
  have h1 : L[j] ∈ liv T := hr.1.mem_iff.1 (List.getElem_mem hj)
  obtain ⟨h2, h3⟩ := liv_mem.1 h1
  obtain ⟨i, hi', e⟩ := List.getElem_of_mem h2
  refine ⟨?_, hi.keys _ h2⟩
  rw [← e] at h3 ⊢
  exact lk_some_of rfl hi.good hi' h3
theorem ris_len {T L : List Slt} {m b : Nat} (hr : Ris T L) (hi : Inv T m b) : L.length = m := by rw [hr.1.length_eq, ← hi.many]; rfl
set_option maxHeartbeats 12800000 in
set_option maxRecDepth 100000 in
theorem map_walk (A1 : Option Addr) (n c1 : Nat) (ops : Nat → OpK) (w : World) (hc : OpsK w A1 n ops) (hn : n ≤ c1) :
    Calls Try.prog 4 #[.slice A1 n c1] w fun e w' => e = .returned (.bool true) ∧ Below w.heap.size w w' := by
  have hmm := @run_makeMap Try.prog
  have HC := Aside0.mk hc
  clear hc
  go_enter Try.func4, Try.ntmps4
  go_wp2_with fail
  refine (awake10.calls _).mono ?_
  rintro e w1 ⟨rfl, b1⟩
  have B1 := Aside0.mk b1
  clear b1
  go_wp2_with fail
  refine (light10.calls A1 n c1 ops _ (HC.out.below B1.out (Nat.le_refl _)) hn).mono ?_
  rintro e w' ⟨rl, rfl, rfl, hl⟩
  have HL := Aside0.mk hl
  clear hl
  go_wp2_with fail
  refine (dir_New.calls _).mono ?_
  rintro e w2 ⟨p, rfl, d2, b2⟩
  have Z2 := Aside0.mk (Nat.le_trans B1.out.size b2.size)
  have H0 := Aside0.mk (show MapRel w.heap.size p w2.heap.size 0 (w2.alloc (.map #[] 0)) from ⟨_, _, 0, [], d2.below (below_alloc (Below.refl _ _) _), Inv.start, fun i h => ⟨Nat.le_trans B1.out.size h.1, by omega⟩, MapOf.made w2, fun k' => by rw [lk_start]; rfl⟩)
  have BB0 := Aside0.mk (B1.out.trans (b2.mono B1.out.size))
  have BB := Aside0.mk (BB0.out.alloc BB0.out.size (.map #[] 0))
  clear d2 b2
  cases rl with
  | false =>
    go_wp2_with fail
    go_ret
    exact ⟨rfl, BB0.out⟩
  | true =>
  obtain ⟨hn150, hks⟩ := HL.out rfl
  have HK := Aside0.mk hks
  clear hks
  go_wp2_with fail
  generalize w2.heap.size = mt at H0 Z2 ⊢
  go_loopw [7] (fun v7 wr => ∃ k : Nat, k ≤ n ∧ v7 = .int .i64 k ∧ Aside0 (MapRel w.heap.size p mt k wr) ∧ Aside0 (Below w.heap.size w wr)) (fun v7 _ => n - (intOf v7).toNat)
  case atStart => exact ⟨0, Nat.zero_le _, rfl, H0, BB⟩
  case round =>
    obtain ⟨k, hk, rfl, HR, HB⟩ := hrel
    by_cases hkn : k < n
    case neg =>
      have dkn : decide ((k : Int) < (n : Int)) = false := decide_eq_false (by omega)
      obtain ⟨A, T, m, want, hD, hI, hA, hM, hLK⟩ := HR.out
      have HD := Aside0.mk hD
      have HI := Aside0.mk hI
      have HM := Aside0.mk hM
      have HLK := Aside0.mk hLK
      have HNL := Aside0.mk (want_length hI (mapL_nodup hM) hLK)
      clear hD hI hA hM hLK HR H0 BB BB0 B1
      go_wp2_with fail
      refine (keys.calls wr A p T m HD.out (HI.out.small (by omega)) ⟨#[]⟩).mono ?_
      rintro e w3 ⟨L, A8, c8, A9, c9, hr, rfl, r1, r2, b3⟩
      rw [filter_all] at r1 r2 ⊢
      have HRL := Aside0.mk hr
      have HLL := Aside0.mk (ris_len hr HI.out)
      have R1 := Aside0.mk r1
      have R2 := Aside0.mk r2
      have M3 := Aside0.mk (MapOf.frm HM.out (S := None') (Frm.of_new b3) (fun x => x))
      have B3 := Aside0.mk (HB.out.trans (b3.mono HB.out.size))
      clear hr r1 r2 b3 HD HM HB
      rw [HLL.out]
      have hlen : ∀ ty, (Builtin.len_ #[51] ty #[.map (some mt)]).run Try.prog w3 = .ok (.int .i64 m) w3 := fun ty => by
        rw [MapOf.len M3.out Try.underlying51, HNL.out]
      go_wp2_with fail
      clear hlen
      have HM3 := Aside0.mk (show ∀ W, Below w3.heap.size w3 W → MapL W mt want from fun W hW => MapOf.frm M3.out (S := None') (Frm.of_new hW) (fun x => x))
      have hm200 : m ≤ 200 := by have := HI.out.le; omega
      go_loopw [17] (fun v17 wq => ∃ j : Nat, j ≤ m ∧ v17 = .int .i64 j ∧ Aside0 (Below w3.heap.size w3 wq)) (fun v17 _ => m - (intOf v17).toNat)
      case atStart => exact ⟨0, Nat.zero_le _, rfl, ⟨Below.refl _ _⟩⟩
      case round =>
        obtain ⟨j, hj, rfl, HQ⟩ := hrel
        by_cases hjm : j < m
        case neg =>
          have djm : decide ((j : Int) < (m : Int)) = false := decide_eq_false (by omega)
          go_wp2_with fail
          go_ret
          exact ⟨rfl, B3.out.trans (HQ.out.mono B3.out.size)⟩
        have djm : decide ((j : Int) < (m : Int)) = true := decide_eq_true (by omega)
        have hjl : j < L.length := by rw [HLL.out]; exact hjm
        obtain ⟨hlkj, hszj⟩ := ris_lk HRL.out HI.out hjl
        have HC1 := Aside0.mk (Kd.R_reads' R1.out).2.2
        have HC2 := Aside0.mk (Kd.R_reads' R2.out).2.2
        have HLS := Aside0.mk (fun i (h : i + 1 = j) => ris_less HRL.out HI.out (show i < j by omega) hjl)
        obtain ⟨ad1, rfl, g0⟩ := C_strAt (Kd.C_below HC1.out HQ.out) (k := j) (by rw [List.length_map]; exact hjl)
        obtain ⟨ad2, rfl, y0, y1, y2, y3⟩ := C_locAt (Kd.C_below HC2.out HQ.out) (k := j) (by rw [List.length_map]; exact hjl)
        simp only [List.getElem_map] at g0 y0 y1 y2 y3
        have hlk := lookL (HM3.out _ HQ.out) HLK.out hszj
        rw [show lkV T L[j].1 = L[j].2.1 by unfold lkV; rw [hlkj]; rfl, hlkj] at hlk
        have G0 := Aside0.mk g0
        have Y0 := Aside0.mk y0
        have Y1 := Aside0.mk y1
        have Y2 := Aside0.mk y2
        have Y3 := Aside0.mk y3
        clear y0 y1 y2 y3 hlkj hszj
        generalize hxj : L[j] = xj at g0 hlk G0 Y0 Y1 Y2 Y3 HLS
        clear hxj
        obtain ⟨kx, ⟨a0, a1, a2, a3⟩, sx⟩ := xj
        simp only [LocV, Option.isSome_some] at g0 hlk G0 Y0 Y1 Y2 Y3 HLS
        have z0 : 0 ≤ (j : Int) := by omega
        obtain ⟨wf, hwf⟩ : ∃ wf, wr.alloc (.cells #[.int .i64 a0, .int .i64 a1, .int .i64 a2, .int .u64 a3] 31) = wf := ⟨_, rfl⟩
        have BF := Aside0.mk (show Below wr.heap.size wr wf by rw [← hwf]; exact (Below.refl _ _).alloc (Nat.le_refl _) _)
        have XF := Aside0.mk (show wf.heap[wr.heap.size]? = some (.cells #[.int .i64 a0, .int .i64 a1, .int .i64 a2, .int .u64 a3] 31) by rw [← hwf]; exact blk_new _ _)
        have HWF := Aside0.mk hwf
        clear hwf
        go_upto_region 29 with (fail)
        rw [HWF.out]
        obtain ⟨b18, hb18⟩ : ∃ b, wr.heap.size = b := ⟨_, rfl⟩
        have BQ := Aside0.mk (show Below w3.heap.size w3 wf from HQ.out.trans (BF.out.mono HQ.out.size))
        replace G0 := Aside0.mk (pw_cell_below BF.out G0.out)
        replace Y0 := Aside0.mk (pw_cell_below BF.out Y0.out)
        replace Y1 := Aside0.mk (pw_cell_below BF.out Y1.out)
        replace Y2 := Aside0.mk (pw_cell_below BF.out Y2.out)
        replace Y3 := Aside0.mk (pw_cell_below BF.out Y3.out)
        rw [hb18] at XF ⊢
        clear hb18 HWF BF g0 hlk HQ
        have heq : ∀ w, (binOp BinOp.neq 31 (.agg #[.int .i64 a0, .int .i64 a1, .int .i64 a2, .int .u64 a3]) (.agg #[.int .i64 a0, .int .i64 a1, .int .i64 a2, .int .u64 a3])).run Try.prog w = .ok (.bool false) w := fun w => by
          obtain ⟨r, hr, _, h⟩ := eqLocB (a0, a1, a2, a3) (a0, a1, a2, a3)
          rw [h, hr.2 rfl]; rfl
        have g0 := G0.out
        have y0 := Y0.out
        have y1 := Y1.out
        have y2 := Y2.out
        have y3 := Y3.out
        obtain ⟨e0, e1, e2, e3, er⟩ := cells4e XF.out
        have HJ0 := Aside0.mk (Nat.eq_zero_or_pos j)
        rcases HJ0.out with hj0 | hj0
        · have dj0 : decide ((0 : Int) < (j : Int)) = false := decide_eq_false (by omega)
          have dj1 : decide (0 < j) = false := decide_eq_false (by omega)
          clear hj0
          go_quiet (fail)
          go_wp2_with fail
          go_roundw
          case measure => show m - ((j : Int) + 1).toNat < m - (j : Int).toNat; omega
          exact ⟨j + 1, by omega, rfl, ⟨⟨BQ.out.os, BQ.out.tape, BQ.out.output, BQ.out.size, BQ.out.block⟩⟩⟩
        · have dj0 : decide ((0 : Int) < (j : Int)) = true := decide_eq_true (by omega)
          have dj1 : decide (0 < j) = true := decide_eq_true (by omega)
          obtain ⟨i, hi⟩ : ∃ i, i + 1 = j := ⟨j - 1, by omega⟩
          have hls := HLS.out i hi
          obtain ⟨_, e, k0⟩ := C_strAt (Kd.C_below HC1.out BQ.out) (k := i) (by rw [List.length_map]; omega)
          cases e
          simp only [List.getElem_map] at k0
          generalize L[i] = xi at hls k0
          obtain ⟨ki, li, si⟩ := xi
          simp only at hls k0
          have hi2 : ((j : Int) - 1) = (i : Int) := by omega
          have hi3 : i < m := by omega
          clear hi hj0
          go_quiet (fail)
          go_wp2_with fail
          go_roundw
          case measure => show m - ((j : Int) + 1).toNat < m - (j : Int).toNat; omega
          exact ⟨j + 1, by omega, rfl, ⟨⟨BQ.out.os, BQ.out.tape, BQ.out.output, BQ.out.size, BQ.out.block⟩⟩⟩
    have dkn : decide ((k : Int) < (n : Int)) = true := decide_eq_true (by omega)
    obtain ⟨ad, rfl, q0, q1, q2, q3, q4, q5⟩ := HC.out k hkn
    have HKS := Aside0.mk (HK.out k hkn)
    generalize ops k = o at q0 q1 q2 q3 q4 q5 HKS
    obtain ⟨x0, x1, ⟨l0, l1, l2, l3⟩⟩ := o
    simp only at q0 q1 q2 q3 q4 q5 HKS
    replace q0 := pw_cell_below HB.out q0
    replace q1 := pw_cell_below HB.out q1
    replace q2 := pw_cell_below HB.out q2
    replace q3 := pw_cell_below HB.out q3
    replace q4 := pw_cell_below HB.out q4
    replace q5 := pw_cell_below HB.out q5
    have p0 : 0 ≤ (k : Int) := by omega
    obtain ⟨A, T, m, want, hD, hI, hA, hM, hLK⟩ := HR.out
    obtain ⟨wb, hwb⟩ : ∃ wb, wr.alloc (.cells #[.int .i64 x0, .string x1, .int .i64 l0, .int .i64 l1, .int .i64 l2, .int .u64 l3] 33) = wb := ⟨_, rfl⟩
    have HOLD := Aside0.mk hD.2.1
    have HD := Aside0.mk (show DirAt wb A p T m by rw [← hwb]; exact hD.below (below_alloc (Below.refl _ _) _))
    have HI := Aside0.mk hI
    have HA := Aside0.mk hA
    have HM := Aside0.mk (show MapL wb mt want by rw [← hwb]; exact hM.alloc _)
    have HMT := Aside0.mk hM.lt
    have HLK := Aside0.mk hLK
    have XB := Aside0.mk (show wb.heap[wr.heap.size]? = some (.cells #[.int .i64 x0, .string x1, .int .i64 l0, .int .i64 l1, .int .i64 l2, .int .u64 l3] 33) by rw [← hwb]; exact blk_new _ _)
    have HBb := Aside0.mk (show Below w.heap.size w wb by rw [← hwb]; exact HB.out.alloc HB.out.size _)
    have HWB := Aside0.mk hwb
    clear hD hI hA hM hLK HR H0 BB BB0 B1 hwb
    go_upto_region 11 with (fail)
    rw [HWB.out]
    obtain ⟨bx, hbx⟩ : ∃ bx, wr.heap.size = bx := ⟨_, rfl⟩
    rw [hbx] at XB HOLD HMT ⊢
    have HBX := Aside0.mk (show w.heap.size ≤ bx ∧ bx < wb.heap.size by rw [← hbx]; exact ⟨HB.out.size, by have := lt_of_block XB.out; rw [← hbx] at this; exact this⟩)
    clear hbx HWB HB q0 q1 q2 q3 q4 q5
    obtain ⟨d0, d1, d2, d3, d4, d5, dr⟩ := cells6d XB.out
    have hlk := lookL HM.out HLK.out HKS.out
    obtain ⟨v, hv⟩ : ∃ v, lkV T x1 = v := ⟨_, rfl⟩
    obtain ⟨s, hs⟩ : ∃ s, (lk T x1).isSome = s := ⟨_, rfl⟩
    rw [hv, hs] at hlk
    have HS := Aside0.mk hs
    clear hv hs
    obtain ⟨v0, v1, v2, v3⟩ := v
    simp only [LocV] at hlk
    obtain ⟨wd, hwd⟩ : ∃ wd, wb.alloc (.cells #[.int .i64 v0, .int .i64 v1, .int .i64 v2, .int .u64 v3] 31) = wd := ⟨_, rfl⟩
    have HDd := Aside0.mk (show DirAt wd A p T m by rw [← hwd]; exact HD.out.below (below_alloc (Below.refl _ _) _))
    have HMd := Aside0.mk (show MapL wd mt want by rw [← hwd]; exact HM.out.alloc _)
    have XBd := Aside0.mk (show wd.heap[bx]? = some (.cells #[.int .i64 x0, .string x1, .int .i64 l0, .int .i64 l1, .int .i64 l2, .int .u64 l3] 33) by rw [← hwd]; exact blk_alloc XB.out _)
    have HBd := Aside0.mk (show Below w.heap.size w wd by rw [← hwd]; exact HBb.out.alloc HBb.out.size _)
    have HWD := Aside0.mk hwd
    clear hwd HD HM XB HBb
    go_upto_region 12 with (fail)
    rw [HWD.out]
    obtain ⟨by9, hby⟩ : ∃ b, wb.heap.size = b := ⟨_, rfl⟩
    rw [hby] at HBX ⊢
    clear hby HWD d0 d1 d2 d3 d4 d5 dr hlk
    obtain ⟨d0, d1, d2, d3, d4, d5, dr⟩ := cells6d XBd.out
    cases h4 : (x0 == 4) with
    | true =>
      have h4' := beq_iff_eq.1 h4
      subst h4'
      go_wp2_with fail
      refine (inv_Delete _ A p T m k HDd.out HI.out (by omega) x1 HKS.out).mono ?_
      rintro e w3 ⟨rfl, hf, T2, m2, hd2, hi2, hlk, _⟩
      rw [HS.out]
      have hMT : ¬ A mt := fun h => (HA.out mt h).2 rfl
      have M3 := Aside0.mk (MapOf.frm HMd.out hf hMT)
      have X3 := Aside0.mk (hf.keeps XBd.out (fun h => Nat.lt_irrefl _ (HOLD.out _ h)))
      have D3 := Aside0.mk hd2
      have I2 := Aside0.mk hi2
      have B3 := Aside0.mk (HBd.out.trans (hf.below HBd.out.size (fun i _ h => (HA.out i h).1)))
      have LK3 := Aside0.mk hlk
      obtain ⟨d0, d1, d2, d3, d4, d5, dr⟩ := cells6d X3.out
      clear hf hd2 hi2 hlk HDd HMd XBd HBd HI hMT
      have hss : (s != s) = false := by simp
      go_wp2_with (refine wpList_delete_of strInj strKeyed w3 rfl (.tmp 62) (.tmp 64) 51 31 _ rfl Try.underlying51 mt want rfl M3.out x1 rfl (strOk (by have := HKS.out; omega)) ?_; rintro wq m6 f6 z6; have M6 := Aside0.mk m6; have F6 := Aside0.mk f6; clear m6 f6 d0 d1 d2 d3 d4 d5 dr; obtain ⟨d0, d1, d2, d3, d4, d5, dr⟩ := cells6d (F6.out.keeps X3.out (fun e => by have := HMT.out; omega)))
      obtain ⟨A2, hA2⟩ : ∃ A2, A = A2 := ⟨_, rfl⟩
      obtain ⟨want2, hwant2⟩ : ∃ W, del want x1 = W := ⟨_, rfl⟩
      have M2 := Aside0.mk (show MapL wq mt want2 by rw [← hwant2]; exact M6.out)
      have LK2 := Aside0.mk (show ∀ k', look want2 k' = lk T2 k' by
        intro k'
        rw [← hwant2, LK3.out]
        by_cases e : x1 = k'
        · rw [if_pos e, ← e, look_del_same]
        · rw [if_neg e, look_del_other _ e, HLK.out])
      have HA2 := Aside0.mk (show ∀ i, A2 i → w.heap.size ≤ i ∧ i ≠ mt by rw [← hA2]; exact HA.out)
      have D2 := Aside0.mk (show DirAt wq A2 p T2 m2 by rw [← hA2]; exact D3.out.frm F6.out (fun i hi e => (HA.out i hi).2 e))
      have XB2 := Aside0.mk (F6.out.keeps X3.out (fun e => by have := HMT.out; omega))
      have B2 := Aside0.mk (B3.out.trans (F6.out.below B3.out.size (fun i _ e => by have := Z2.out; omega)))
      clear d0 d1 d2 d3 d4 d5 dr hA2 hwant2 M6 F6 M3 X3 D3 B3 LK3 HLK HA HOLD hss
      have HNL := Aside0.mk (want_length I2.out (mapL_nodup M2.out) LK2.out)
      refine (inv_Get _ A2 p T2 m2 (k + 1) D2.out I2.out (by omega) x1 HKS.out).mono ?_
      rintro e w5 ⟨rfl, b5⟩
      obtain ⟨u, hu⟩ : ∃ u, lkV T2 x1 = u := ⟨_, rfl⟩
      obtain ⟨s2, hs2⟩ : ∃ s, (lk T2 x1).isSome = s := ⟨_, rfl⟩
      have HLU := Aside0.mk (fun W (hW : MapL W mt want2) => lookL hW LK2.out HKS.out)
      rw [hu, hs2] at HLU ⊢
      clear hu hs2
      obtain ⟨u0, u1, u2, u3⟩ := u
      simp only [LocV] at HLU ⊢
      have heq : ∀ w, (binOp BinOp.neq 31 (.agg #[.int .i64 u0, .int .i64 u1, .int .i64 u2, .int .u64 u3]) (.agg #[.int .i64 u0, .int .i64 u1, .int .i64 u2, .int .u64 u3])).run Try.prog w = .ok (.bool false) w := fun w => by
        obtain ⟨r, hr, _, h⟩ := eqLocB (u0, u1, u2, u3) (u0, u1, u2, u3)
        rw [h, hr.2 rfl]; rfl
      obtain ⟨w6, hw6⟩ : ∃ w6, w5.alloc (.cells #[.int .i64 u0, .int .i64 u1, .int .i64 u2, .int .u64 u3] 31) = w6 := ⟨_, rfl⟩
      have B65 := Aside0.mk (show Below wq.heap.size wq w6 by rw [← hw6]; exact b5.alloc b5.size _)
      have X11 := Aside0.mk (show w6.heap[w5.heap.size]? = some (.cells #[.int .i64 u0, .int .i64 u1, .int .i64 u2, .int .u64 u3] 31) by rw [← hw6]; exact blk_new _ _)
      have D6 := Aside0.mk (D2.out.below B65.out)
      have M6 := Aside0.mk (MapOf.frm M2.out (S := None') (Frm.of_new B65.out) (fun x => x))
      have XB6 := Aside0.mk (blk_below XB2.out B65.out)
      have B6 := Aside0.mk (B2.out.trans (B65.out.mono B2.out.size))
      have HW6 := Aside0.mk hw6
      clear hw6 b5
      go_upto_region 19 with (fail)
      rw [HW6.out]
      obtain ⟨b11, hb11⟩ : ∃ b, w5.heap.size = b := ⟨_, rfl⟩
      rw [hb11] at X11 ⊢
      clear hb11 HW6
      obtain ⟨d0, d1, d2, d3, d4, d5, dr⟩ := cells6d XB6.out
      have hlk := HLU.out _ M6.out
      obtain ⟨c0, c1', c2, c3, cr⟩ := cells4e X11.out
      go_upto_region 20 with (fail)
      clear d0 d1 d2 d3 d4 d5 dr hlk c0 c1' c2 c3 cr
      obtain ⟨w7, hw7⟩ : ∃ w7, w6.alloc (.cells #[.int .i64 u0, .int .i64 u1, .int .i64 u2, .int .u64 u3] 31) = w7 := ⟨_, rfl⟩
      have B76 := Aside0.mk (show Below w6.heap.size w6 w7 by rw [← hw7]; exact (Below.refl _ _).alloc (Nat.le_refl _) _)
      have X13 := Aside0.mk (show w7.heap[w6.heap.size]? = some (.cells #[.int .i64 u0, .int .i64 u1, .int .i64 u2, .int .u64 u3] 31) by rw [← hw7]; exact blk_new _ _)
      rw [hw7]
      have D7 := Aside0.mk (D6.out.below B76.out)
      have M7 := Aside0.mk (MapOf.frm M6.out (S := None') (Frm.of_new B76.out) (fun x => x))
      have B7 := Aside0.mk (B6.out.trans (B76.out.mono B6.out.size))
      obtain ⟨c0, c1', c2, c3, cr⟩ := cells4e (blk_below X11.out B76.out)
      obtain ⟨e0, e1, e2, e3, er⟩ := cells4e X13.out
      clear hw7
      have hlen : ∀ ty, (Builtin.len_ #[51] ty #[.map (some mt)]).run Try.prog w7 = .ok (.int .i64 m2) w7 := fun ty => by
        rw [MapOf.len M7.out Try.underlying51, HNL.out]
      obtain ⟨t2, ht2⟩ : ∃ t, T2.length = t := ⟨_, rfl⟩
      have HT2 := Aside0.mk ht2
      have f1 : 2 * m2 ≤ t2 := by rw [← ht2]; exact I2.out.half
      have f2 : m2 ≤ 200 := by have := I2.out.le; omega
      clear ht2
      go_wp2_with fail
      refine (dir_Len.calls _ A2 p T2 m2 D7.out).mono ?_
      rintro e w' ⟨rfl, rfl⟩
      go_wp2_with fail
      refine (dir_Len.calls _ A2 p T2 m2 D7.out).mono ?_
      rintro e w' ⟨rfl, rfl⟩
      go_wp2_with fail
      refine (dir_Cap.calls _ A2 p T2 m2 D7.out).mono ?_
      rintro e w' ⟨rfl, rfl⟩
      rw [HT2.out]
      have f3 : decide ((t2 : Int) < 2 * (m2 : Int)) = false := decide_eq_false (by omega)
      go_wp2_with fail
      go_roundw
      case measure => show n - ((k : Int) + 1).toNat < n - (k : Int).toNat; omega
      exact ⟨k + 1, by omega, rfl, ⟨⟨A2, T2, m2, want2, D7.out, I2.out, HA2.out, M7.out, LK2.out⟩⟩, B7⟩
    | false =>
      go_wp2_with fail
      refine (inv_Put _ A p T m k HDd.out HI.out (by omega) x1 HKS.out l0 l1 l2 l3).mono ?_
      rintro e w3 ⟨rfl, T2, m2, A2, _, hd2, hf, hs, hi2, hlk⟩
      have hMT : ¬ A mt := fun h => (HA.out mt h).2 rfl
      have M3 := Aside0.mk (MapOf.frm HMd.out hf hMT)
      have X3 := Aside0.mk (hf.keeps XBd.out (fun h => Nat.lt_irrefl _ (HOLD.out _ h)))
      have D3 := Aside0.mk hd2
      have I2 := Aside0.mk hi2
      have HA2 := Aside0.mk (show ∀ i, A2 i → w.heap.size ≤ i ∧ i ≠ mt from fun i hi => (hs i hi).elim (HA.out i) (fun h => ⟨Nat.le_trans HBd.out.size h, by have := HMd.out.lt; omega⟩))
      have B3 := Aside0.mk (HBd.out.trans (hf.below HBd.out.size (fun i _ h => (HA.out i h).1)))
      have LK3 := Aside0.mk hlk
      clear d0 d1 d2 d3 d4 d5 dr
      obtain ⟨d0, d1, d2, d3, d4, d5, dr⟩ := cells6d X3.out
      clear hf hd2 hi2 hlk HDd HMd XBd HBd HI hMT hs
      go_wp2_with (refine wpList_mapUpdate_of strInj strKeyed w3 rfl (.tmp 71) (.tmp 73) (.tmp 75) 51 31 rfl Try.underlying51 mt want rfl M3.out x1 rfl (strOk (by have := HKS.out; omega)) ((l0, l1, l2, l3) : Loc4) rfl ?_; rintro wq m6 f6 z6; have M6 := Aside0.mk m6; have F6 := Aside0.mk f6; clear m6 f6 d0 d1 d2 d3 d4 d5 dr; obtain ⟨d0, d1, d2, d3, d4, d5, dr⟩ := cells6d (F6.out.keeps X3.out (fun e => by have := HMT.out; omega)))
      obtain ⟨want2, hwant2⟩ : ∃ W, put want x1 (l0, l1, l2, l3) = W := ⟨_, rfl⟩
      have M2 := Aside0.mk (show MapL wq mt want2 by rw [← hwant2]; exact M6.out)
      have LK2 := Aside0.mk (show ∀ k', look want2 k' = lk T2 k' by
        intro k'
        rw [← hwant2, LK3.out]
        by_cases e : x1 = k'
        · rw [if_pos e, ← e, look_put_same]
        · rw [if_neg e, look_put_other _ e, HLK.out])
      have D2 := Aside0.mk (show DirAt wq A2 p T2 m2 from D3.out.frm F6.out (fun i hi e => (HA2.out i hi).2 e))
      have XB2 := Aside0.mk (F6.out.keeps X3.out (fun e => by have := HMT.out; omega))
      have B2 := Aside0.mk (B3.out.trans (F6.out.below B3.out.size (fun i _ e => by have := Z2.out; omega)))
      clear hwant2 M6 F6 M3 X3 D3 B3 LK3 HLK HA HOLD
      have HNL := Aside0.mk (want_length I2.out (mapL_nodup M2.out) LK2.out)
      refine (inv_Get _ A2 p T2 m2 (k + 1) D2.out I2.out (by omega) x1 HKS.out).mono ?_
      rintro e w5 ⟨rfl, b5⟩
      obtain ⟨u, hu⟩ : ∃ u, lkV T2 x1 = u := ⟨_, rfl⟩
      obtain ⟨s2, hs2⟩ : ∃ s, (lk T2 x1).isSome = s := ⟨_, rfl⟩
      have HLU := Aside0.mk (fun W (hW : MapL W mt want2) => lookL hW LK2.out HKS.out)
      rw [hu, hs2] at HLU ⊢
      clear hu hs2
      obtain ⟨u0, u1, u2, u3⟩ := u
      simp only [LocV] at HLU ⊢
      have heq : ∀ w, (binOp BinOp.neq 31 (.agg #[.int .i64 u0, .int .i64 u1, .int .i64 u2, .int .u64 u3]) (.agg #[.int .i64 u0, .int .i64 u1, .int .i64 u2, .int .u64 u3])).run Try.prog w = .ok (.bool false) w := fun w => by
        obtain ⟨r, hr, _, h⟩ := eqLocB (u0, u1, u2, u3) (u0, u1, u2, u3)
        rw [h, hr.2 rfl]; rfl
      obtain ⟨w6, hw6⟩ : ∃ w6, w5.alloc (.cells #[.int .i64 u0, .int .i64 u1, .int .i64 u2, .int .u64 u3] 31) = w6 := ⟨_, rfl⟩
      have B65 := Aside0.mk (show Below wq.heap.size wq w6 by rw [← hw6]; exact b5.alloc b5.size _)
      have X11 := Aside0.mk (show w6.heap[w5.heap.size]? = some (.cells #[.int .i64 u0, .int .i64 u1, .int .i64 u2, .int .u64 u3] 31) by rw [← hw6]; exact blk_new _ _)
      have D6 := Aside0.mk (D2.out.below B65.out)
      have M6 := Aside0.mk (MapOf.frm M2.out (S := None') (Frm.of_new B65.out) (fun x => x))
      have XB6 := Aside0.mk (blk_below XB2.out B65.out)
      have B6 := Aside0.mk (B2.out.trans (B65.out.mono B2.out.size))
      have HW6 := Aside0.mk hw6
      clear hw6 b5
      go_upto_region 19 with (fail)
      rw [HW6.out]
      obtain ⟨b11, hb11⟩ : ∃ b, w5.heap.size = b := ⟨_, rfl⟩
      rw [hb11] at X11 ⊢
      clear hb11 HW6
      obtain ⟨d0, d1, d2, d3, d4, d5, dr⟩ := cells6d XB6.out
      have hlk := HLU.out _ M6.out
      obtain ⟨c0, c1', c2, c3, cr⟩ := cells4e X11.out
      go_upto_region 20 with (fail)
      clear d0 d1 d2 d3 d4 d5 dr hlk c0 c1' c2 c3 cr
      obtain ⟨w7, hw7⟩ : ∃ w7, w6.alloc (.cells #[.int .i64 u0, .int .i64 u1, .int .i64 u2, .int .u64 u3] 31) = w7 := ⟨_, rfl⟩
      have B76 := Aside0.mk (show Below w6.heap.size w6 w7 by rw [← hw7]; exact (Below.refl _ _).alloc (Nat.le_refl _) _)
      have X13 := Aside0.mk (show w7.heap[w6.heap.size]? = some (.cells #[.int .i64 u0, .int .i64 u1, .int .i64 u2, .int .u64 u3] 31) by rw [← hw7]; exact blk_new _ _)
      rw [hw7]
      have D7 := Aside0.mk (D6.out.below B76.out)
      have M7 := Aside0.mk (MapOf.frm M6.out (S := None') (Frm.of_new B76.out) (fun x => x))
      have B7 := Aside0.mk (B6.out.trans (B76.out.mono B6.out.size))
      obtain ⟨c0, c1', c2, c3, cr⟩ := cells4e (blk_below X11.out B76.out)
      obtain ⟨e0, e1, e2, e3, er⟩ := cells4e X13.out
      clear hw7
      have hlen : ∀ ty, (Builtin.len_ #[51] ty #[.map (some mt)]).run Try.prog w7 = .ok (.int .i64 m2) w7 := fun ty => by
        rw [MapOf.len M7.out Try.underlying51, HNL.out]
      obtain ⟨t2, ht2⟩ : ∃ t, T2.length = t := ⟨_, rfl⟩
      have HT2 := Aside0.mk ht2
      have f1 : 2 * m2 ≤ t2 := by rw [← ht2]; exact I2.out.half
      have f2 : m2 ≤ 200 := by have := I2.out.le; omega
      clear ht2
      go_wp2_with fail
      refine (dir_Len.calls _ A2 p T2 m2 D7.out).mono ?_
      rintro e w' ⟨rfl, rfl⟩
      go_wp2_with fail
      refine (dir_Len.calls _ A2 p T2 m2 D7.out).mono ?_
      rintro e w' ⟨rfl, rfl⟩
      go_wp2_with fail
      refine (dir_Cap.calls _ A2 p T2 m2 D7.out).mono ?_
      rintro e w' ⟨rfl, rfl⟩
      rw [HT2.out]
      have f3 : decide ((t2 : Int) < 2 * (m2 : Int)) = false := decide_eq_false (by omega)
      go_wp2_with fail
      go_roundw
      case measure => show n - ((k : Int) + 1).toNat < n - (k : Int).toNat; omega
      exact ⟨k + 1, by omega, rfl, ⟨⟨A2, T2, m2, want2, D7.out, I2.out, HA2.out, M7.out, LK2.out⟩⟩, B7⟩
end Go.Proofs.Ytcpjfpbfopkngaa.Thw
