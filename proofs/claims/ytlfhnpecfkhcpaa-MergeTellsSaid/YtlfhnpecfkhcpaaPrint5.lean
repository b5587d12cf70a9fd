/- Written by a program of mine (give.py, over the kit's print) out of the translation: contracts of the Go functions. Lean checks it. -/
import Derived.Test.YtlfhnpecfkhcpaaPrint0
import Derived.Test.YtlfhnpecfkhcpaaPrint2
import Derived.Test.YtlfhnpecfkhcpaaPrint3
namespace Go.Proofs.Ytlfhnpecfkhcpaa.Print
open Go.RowKit Go.Proofs.YtlfhnpecfkhcpaaW.PrintWords Go.Proofs.YtlfhnpecfkhcpaaW.PrintLast Go.Proofs.YtlfhnpecfkhcpaaW.PrintMore
attribute [local go_sem] max2_int min2_int max_two min_two max_three min_three max_four min_four   -- for this text's walks alone
set_option linter.unusedVariables false
set_option linter.unusedSimpArgs false

/-! ### thwartref15_Newest: function 12 -/
def thwartref15_Newest.f (l0 : List (List (S36))) : Option (List (S36)) := if l0.length ≤ 1000000 ∧ l0.flatten.length ≤ 1000000 then some (Thw.newestL (fun x : S36 => x.f1) (fun x : S36 => x.f0) l0.flatten) else none
theorem thwartref15_Newest.KM {w : World} {base : Nat} {ok : Nat → Prop} {x : S36} {cs : List Value} (h : k36.K w x cs) : k36.M w base ok x cs := by rw [k36_open h]; exact k36_mkM _ _ _ x
theorem thwartref15_Newest.at_ {w : World} {A : Option Addr} {ys : List (S36)} (h : Kd.C k36 w A ys.length ys) (j : Nat) (hj : j < ys.length) : ∃ ad, A = some ad ∧ w.cell? (ad.add (j * 4)) = some (.int .u64 ys[j].f0) ∧ w.cell? ⟨(ad.add (j * 4)).block, (ad.add (j * 4)).off + 1, none⟩ = some (.string ys[j].f1) ∧ w.cell? ⟨(ad.add (j * 4)).block, (ad.add (j * 4)).off + 2, none⟩ = some (.string ys[j].f2) ∧ w.cell? ⟨(ad.add (j * 4)).block, (ad.add (j * 4)).off + 3, none⟩ = some (.bool ys[j].f3) := by
  obtain ⟨ad, e, x0, x1, x2, x3⟩ := at_T36 h (j : Int) (by omega) (by omega)
  have e1 : rd_T36 ys (j : Int) = ys[j] := by
    unfold rd_T36
    rw [Int.toNat_natCast, List.getD_eq_getElem?_getD, List.getElem?_eq_getElem hj]
    rfl
  rw [e1, Int.toNat_natCast] at x0 x1 x2 x3
  exact ⟨ad, e, x0, x1, x2, x3⟩
theorem thwartref15_Newest.info : (Try.prog.info? 36).map (fun i => (i.zero, i.size, i.bytes)) = some (some (.agg #[.int .u64 0, .string ⟨#[]⟩, .string ⟨#[]⟩, .bool false]), 4, 48) := by kernel_rfl
theorem thwartref15_Newest.flatTake {α : Type} (ls : List (List α)) (i : Nat) (hi : i < ls.length) (j : Nat) (hj : j < ls[i].length) : (ls.take i).flatten ++ ls[i].take (j + 1) = ((ls.take i).flatten ++ ls[i].take j) ++ [ls[i][j]] := by
  rw [List.take_succ_eq_append_getElem hj, List.append_assoc]
theorem thwartref15_Newest.flatTake2 {α : Type} (ls : List (List α)) (i : Nat) (hi : i < ls.length) : (ls.take (i + 1)).flatten = (ls.take i).flatten ++ ls[i].take ls[i].length := by
  rw [List.take_succ_eq_append_getElem hi, List.flatten_append, List.take_length]
  simp
theorem thwartref15_Newest.small {l : List (S36)} : (Thw.newestL (fun x : S36 => x.f1) (fun x : S36 => x.f0) l).length ≤ l.length := by
  rw [← (Thw.tab_ok (fun x : S36 => x.f1) (fun x : S36 => x.f0) l).perm.length_eq, List.length_map]
  exact Thw.tabM_length (fun x : S36 => x.f1) (fun x : S36 => x.f0) l
theorem thwartref15_Newest.flatLen {α : Type} (ls : List (List α)) (i : Nat) (hi : i < ls.length) (j : Nat) (hj : j ≤ ls[i].length) : ((ls.take i).flatten ++ ls[i].take j).length ≤ ls.flatten.length := by
  have e : ls.flatten = (ls.take i).flatten ++ (ls[i] ++ (ls.drop (i + 1)).flatten) := by
    conv => lhs; rw [← List.take_append_drop i ls, List.flatten_append, List.drop_eq_getElem_cons hi, List.flatten_cons]
  rw [e, List.length_append, List.length_append, List.length_append, List.length_take]
  omega
def newest13T : Bool × List (List Nat × List Nat) := (true, [([], []), ([], []), ([], []), ([1, 2], [1, 2]), ([0, 3], [0, 3]), ([], []), ([5], [5]), ([4, 6, 4], [4, 6]), ([], []), ([], []), ([8, 9], [8, 9]), ([7, 10, 7], [7, 10]), ([11, 11, 0, 1, 2, 3, 4, 5, 6, 7, 8, 9, 10, 11], [1, 8, 11])])
def newest13B : List Nat := [0, 0, 0, 6, 15, 0, 32, 127, 0, 0, 768, 2047, 4095]
theorem newest13tab : rtab .any (opsOf Try.f12 13) = newest13T := by kernel_rfl
theorem newest13bits : waitsOk newest13T.2 newest13B = true := by kernel_rfl
set_option maxHeartbeats 12800000 in
set_option maxRecDepth 100000 in
theorem thwartref15_Newest.calls (A0 : Option Addr) (c0 : Nat) (l0 : List (List (S36))) (r : List (S36)) (w : World) (hr0 : Kd.C (Kd.slice 36 k36) w A0 l0.length l0) (hc0 : l0.length ≤ c0) (h : thwartref15_Newest.f l0 = some r) :
    Calls Try.prog 12 #[.slice A0 l0.length c0] w fun e w' => ∃ v0_ : Value, e = .returned v0_ ∧ Kd.R k36 36 w' w.heap.size (fun _ => True) v0_ r ∧ Below w.heap.size w w' := by
  have R0 := Aside0.mk hr0
  clear hr0
  unfold thwartref15_Newest.f at h
  split at h
  case isFalse => cases h
  rename_i hlim
  cases h
  obtain ⟨hl0, hlf⟩ := hlim
  have HLF := Aside0.mk hlf
  clear hlf
  go_enter Try.func12, Try.ntmps12
  go_wp2_with fail
  go_loopw [3, 4] (fun v3 v4 wr => ∃ i : Nat, i ≤ l0.length ∧ v4 = .int .i64 i ∧ Aside0 (Kd.R k36 36 wr w.heap.size (fun _ => True) v3 (Thw.newestL (fun x : S36 => x.f1) (fun x : S36 => x.f0) (l0.take i).flatten)) ∧ Aside0 (Below w.heap.size w wr)) (fun _ v4 _ => l0.length - (intOf v4).toNat)
  case atStart => exact ⟨0, by omega, rfl, ⟨Kd.R_nil _ _ _ _ _⟩, ⟨Below.refl _ _⟩⟩
  case round =>
    obtain ⟨i, hi, rfl, HR, HB⟩ := hrel
    obtain ⟨A3, c3, rfl⟩ := Kd.R_slice HR.out
    by_cases hlt : i < l0.length
    · have d1 : decide ((i : Int) < (l0.length : Int)) = true := decide_eq_true (by omega)
      have i0 : 0 ≤ (i : Int) := by omega
      have i1 : (i : Int) < (l0.length : Int) := by omega
      obtain ⟨ad, A', c', rfl, hcell, hle, hC⟩ := Thw.slice_at R0.out i l0[i] (List.getElem?_eq_getElem hlt)
      have HT := Aside0.mk (fun j hj => thwartref15_Newest.flatTake l0 i hlt j hj)
      have HT2 := Aside0.mk (thwartref15_Newest.flatTake2 l0 i hlt)
      have HL2 := Aside0.mk (fun j hj => thwartref15_Newest.flatLen l0 i hlt j hj)
      generalize l0[i] = xs at hcell hle hC HT HT2 HL2
      have HC := Aside0.mk hC
      have HCell := Aside0.mk hcell
      have HM := Aside0.mk HC.out.2.1
      clear hC hcell hle
      go_wp2_with fail
      go_loopw [3, 5] (fun v3 v5 wq => ∃ j : Nat, j ≤ xs.length ∧ v5 = .int .i64 j ∧ Aside0 (Kd.R k36 36 wq w.heap.size (fun _ => True) v3 (Thw.newestL (fun x : S36 => x.f1) (fun x : S36 => x.f0) ((l0.take i).flatten ++ xs.take j))) ∧ Aside0 (Below w.heap.size w wq)) (fun _ v5 _ => xs.length - (intOf v5).toNat)
      case atStart => exact ⟨0, by omega, rfl, ⟨by simpa using HR.out⟩, HB⟩
      case round =>
        clear HB HR
        obtain ⟨j, hj, rfl, HR, HB⟩ := hrel
        obtain ⟨A4, c4, rfl⟩ := Kd.R_slice HR.out
        have hcell := (HB.out.cell (World.block_lt_of_cell? w _ HCell.out)).trans HCell.out
        by_cases hlj : j < xs.length
        · have d2 : decide ((j : Int) < (xs.length : Int)) = true := decide_eq_true (by omega)
          have j0 : 0 ≤ (j : Int) := by omega
          have j1 : (j : Int) < (xs.length : Int) := by omega
          have hmm := HM.out
          obtain ⟨ad2, rfl, q0, q1, q2, q3⟩ := thwartref15_Newest.at_ (Kd.C_below HC.out HB.out) j hlj
          have HNX := Aside0.mk (by rw [HT.out j hlj, Thw.newestL_snoc] : (Thw.newestL (fun x : S36 => x.f1) (fun x : S36 => x.f0) ((l0.take i).flatten ++ xs.take (j + 1))) = Thw.insN (fun x : S36 => x.f1) (fun x : S36 => x.f0) (Thw.newestL (fun x : S36 => x.f1) (fun x : S36 => x.f0) ((l0.take i).flatten ++ xs.take j)) xs[j])
          have HXL := Aside0.mk (Nat.le_trans (thwartref15_Newest.small (l := (l0.take i).flatten ++ xs.take j)) (Nat.le_trans (HL2.out j hj) HLF.out))
          generalize xs[j] = x at q0 q1 q2 q3 HNX
          generalize (Thw.newestL (fun x : S36 => x.f1) (fun x : S36 => x.f0) ((l0.take i).flatten ++ xs.take j)) = X at HR HNX HXL ⊢
          go_wp2_with fail
          have XV := Aside0.mk (blk_new wr (.cells #[.int .u64 x.f0, .string x.f1, .string x.f2, .bool x.f3] 36))
          have RV := Aside0.mk (Kd.R_mono (Kd.R_alloc (Kd.R_bound HR.out) (.cells #[.int .u64 x.f0, .string x.f1, .string x.f2, .bool x.f3] 36)) (ok' := fun k => k < wr.heap.size) (fun k hk => hk.2.2.1))
          have BV := Aside0.mk (HB.out.alloc HB.out.size (.cells #[.int .u64 x.f0, .string x.f1, .string x.f2, .bool x.f3] 36))
          obtain ⟨b7, hb7⟩ : ∃ b7, wr.heap.size = b7 := ⟨_, rfl⟩
          have HZV := Aside0.mk (show w.heap.size ≤ b7 by rw [← hb7]; exact HB.out.size)
          rw [hb7] at XV RV ⊢
          generalize wr.alloc (.cells #[.int .u64 x.f0, .string x.f1, .string x.f2, .bool x.f3] 36) = wv at XV RV BV ⊢
          clear hb7 q0 q1 q2 q3 HR HB hcell
          go_wp2_with fail
          go_loopw [7] (fun v7 wx => ∃ a : Nat, a ≤ X.length ∧ v7 = .int .i64 a ∧ Aside0 (∀ j (h : j < X.length), j < a → Op.bytesLess X[j].f1.toList x.f1.toList = true) ∧ Aside0 (Below wv.heap.size wv wx)) (fun v7 _ => X.length - (intOf v7).toNat)
          case atStart => exact ⟨0, by omega, rfl, ⟨fun j _ hj => by omega⟩, ⟨Below.refl _ _⟩⟩
          case round =>
            obtain ⟨a, ha, rfl, HA, HBX⟩ := hrel
            have RV8 := Aside0.mk (Kd.R_below RV.out HBX.out)
            have XV8 := Aside0.mk (blk_below XV.out HBX.out)
            have BV8 := Aside0.mk (BV.out.trans (HBX.out.mono BV.out.size))
            obtain ⟨k0, k1, k2, k3, kf⟩ := Thw.cells4 XV8.out
            have hxl := HXL.out
            by_cases hla : a < X.length
            · have d3 : decide ((a : Int) < (X.length : Int)) = true := decide_eq_true (by omega)
              have a0 : 0 ≤ (a : Int) := by omega
              have a1 : (a : Int) < (X.length : Int) := by omega
              obtain ⟨g, cap, hv, hg0, hg1, cells, hgc⟩ := Kd.R_form RV8.out (by omega)
              injection hv with hv1 hv2 hv3
              subst hv1 hv3
              obtain ⟨y, hy⟩ : ∃ y, X[a] = y := ⟨_, rfl⟩
              obtain ⟨p0, p1, p2, p3⟩ := merge_Live.at_ RV8.out a y (by rw [List.getElem?_eq_getElem hla, hy])
              have HY := Aside0.mk hy
              clear hy hg0 hg1 hgc
              cases hbl : Op.bytesLess y.f1.toList x.f1.toList with
              | true =>
                have HA2 := Aside0.mk (show ∀ j (h : j < X.length), j < a + 1 → Op.bytesLess X[j].f1.toList x.f1.toList = true from fun j h hj => by
                  rcases Nat.lt_succ_iff_lt_or_eq.1 hj with h1 | rfl
                  · exact HA.out j h h1
                  · rw [HY.out]; exact hbl)
                go_wp2
                repeat (go_quiet (fail); try go_wp2)
                go_roundw
                case rel => exact ⟨a + 1, by omega, by have := HXL.out; go_num, HA2, ⟨by repeat (first | (with_reducible first | exact HBX.out | apply below_alloc | apply pw_below_drewN | apply below_drew1) | exact HBX.out)⟩⟩
                case measure => have := HXL.out; simp [intOf]; omega
              | false =>
                go_wp2
                repeat (go_quiet (fail); try go_wp2)
                have e1 : ((a : Int) == (X.length : Int)) = false := beq_eq_false_iff_ne.2 (by omega)
                by_cases hk : y.f1 = x.f1
                · have HI := Aside0.mk (Thw.insN_old_at (fun x : S36 => x.f1) (fun x : S36 => x.f0) X x a hla (fun j h hj => (Thw.lessB_iff _ _).1 (HA.out j h hj)) (fun h => by
                    have h := (Thw.lessB_iff _ _).2 h
                    rw [HY.out, hbl] at h
                    cases h) (by rw [HY.out]; exact hk))
                  rw [HY.out, ← HNX.out] at HI
                  rw [hk] at p1
                  go_quiet (fail)
                  go_upto_region 14 with (fail)
                  refine Thw.region_still (by kernel_rfl) (by kernel_rfl) (fun W => Below wv.heap.size wv W) (by repeat (first | (with_reducible first | exact HBX.out | apply below_alloc | apply pw_below_drewN | apply below_drew1) | exact HBX.out)) ?_
                  clear p0 p1 p2 p3 k0 k1 k2 k3 kf RV8 XV8 BV8 e1
                  rintro wv9 hb9
                  have RV9 := Aside0.mk (Kd.R_below RV.out hb9)
                  have XV9 := Aside0.mk (blk_below XV.out hb9)
                  have BV9 := Aside0.mk (BV.out.trans (hb9.mono BV.out.size))
                  clear hb9
                  obtain ⟨k0, k1, k2, k3, kf⟩ := Thw.cells4 XV9.out
                  obtain ⟨p0, p1, p2, p3⟩ := merge_Live.at_ RV9.out a y (by rw [List.getElem?_eq_getElem hla, HY.out])
                  by_cases hnum : y.f0 ≤ x.f0
                  · have e3 : decide (y.f0 ≤ x.f0) = true := decide_eq_true hnum
                    have HI2 := Aside0.mk (show _ from HI.out.trans (if_pos hnum))
                    clear HI hnum
                    repeat still_step
                    refine wpStill_nil ?_
                    have f0 := merge_Live.frozen RV9.out (a * 4)
                    have f1 := merge_Live.frozen RV9.out (a * 4 + 1)
                    have f2 := merge_Live.frozen RV9.out (a * 4 + 2)
                    have f3 := merge_Live.frozen RV9.out (a * 4 + 3)
                    go_upto_region 7 with (fail)
                    have RV10 := Aside0.mk (show Kd.R k36 36 ((((wv9.setCell ⟨g, a * 4, none⟩ (.int .u64 x.f0)).setCell ⟨g, a * 4 + 1, none⟩ (.string x.f1)).setCell ⟨g, a * 4 + 2, none⟩ (.string x.f2)).setCell ⟨g, a * 4 + 3, none⟩ (.bool x.f3)) w.heap.size (fun k => k < b7) (.slice (some ⟨g, 0, none⟩) X.length c4) (X.set a x) from Thw.R_setK (enc := fun x : S36 => [.int .u64 x.f0, .string x.f1, .string x.f2, .bool x.f3]) merge_Live.hE (fun w b o x => k36_mkM w b o x) (fun _ => rfl) RV9.out a hla x)
                    have HGB := Aside0.mk (own_base (Kd.R_own RV9.out).choose_spec g rfl)
                    have BV10 := Aside0.mk ((((BV9.out.setCell (p := ⟨g, a * 4, none⟩) HGB.out (.int .u64 x.f0)).setCell (p := ⟨g, a * 4 + 1, none⟩) HGB.out (.string x.f1)).setCell (p := ⟨g, a * 4 + 2, none⟩) HGB.out (.string x.f2)).setCell (p := ⟨g, a * 4 + 3, none⟩) HGB.out (.bool x.f3))
                    generalize (((wv9.setCell ⟨g, a * 4, none⟩ (.int .u64 x.f0)).setCell ⟨g, a * 4 + 1, none⟩ (.string x.f1)).setCell ⟨g, a * 4 + 2, none⟩ (.string x.f2)).setCell ⟨g, a * 4 + 3, none⟩ (.bool x.f3) = wv10 at RV10 BV10 ⊢
                    clear p0 p1 p2 p3 k0 k1 k2 k3 kf f0 f1 f2 f3 RV9 XV9 BV9
                    go_wp2_with fail
                    go_roundw
                    case rel => exact ⟨j + 1, by omega, by have := HM.out; go_num, ⟨by rw [HI2.out]; simpa using Kd.R_mono RV10.out (fun _ _ => trivial)⟩, BV10⟩
                    case measure => simp [intOf]; omega
                  · have e3 : decide (y.f0 ≤ x.f0) = false := decide_eq_false hnum
                    have HI2 := Aside0.mk (show _ from HI.out.trans (if_neg hnum))
                    clear HI hnum
                    repeat still_step
                    refine wpStill_nil ?_
                    clear p0 p1 p2 p3 k0 k1 k2 k3 kf
                    go_wp2_with fail
                    go_roundw
                    case rel => exact ⟨j + 1, by omega, by have := HM.out; go_num, ⟨by rw [HI2.out]; exact Kd.R_mono RV9.out (fun _ _ => trivial)⟩, BV9⟩
                    case measure => simp [intOf]; omega
                · have HI := Aside0.mk (Thw.insN_new_at (fun x : S36 => x.f1) (fun x : S36 => x.f0) X x a ha (fun j h hj => (Thw.lessB_iff _ _).1 (HA.out j h hj)) (fun hh => ⟨(fun h => by
                    have h := (Thw.lessB_iff _ _).2 h
                    rw [HY.out, hbl] at h
                    cases h), (by rw [HY.out]; exact hk)⟩))
                  rw [← HNX.out] at HI
                  have e2 : (y.f1.toList == x.f1.toList) = false := beq_eq_false_iff_ne.2 (fun h => hk (Thw.ba_ext (by rw [← Lib.toList_data, ← Lib.toList_data]; exact h)))
                  go_quiet (fail)
                  go_wp2_with fail
                  have hC7 := (Kd.R_reads' RV.out)
                  obtain ⟨A1, c1, A2, c2, hcut1, hCT, hcut2, hCD⟩ := Thw.cut_two (P := Try.prog) 22 36 Try.underlying22 thwartref15_Newest.info hC7.2.2 hC7.2.1 a ha
                  obtain ⟨n1, hn1⟩ : ∃ n_ : Nat, (X.take a).length = n_ := ⟨_, rfl⟩
                  obtain ⟨n2, hn2⟩ : ∃ n_ : Nat, (X.drop a).length = n_ := ⟨_, rfl⟩
                  rw [hn1] at hcut1 hCT
                  rw [hn2] at hcut2 hCD
                  have HN1 := Aside0.mk (show n1 ≤ 1000000 by rw [← hn1, List.length_take]; have := HXL.out; omega)
                  have HN2 := Aside0.mk (show n2 ≤ 1000000 by rw [← hn2, List.length_drop]; have := HXL.out; omega)
                  clear hn1 hn2
                  have CT := Aside0.mk hCT
                  have CD := Aside0.mk hCD
                  clear hCT hCD hC7
                  have hhx := HXL.out
                  refine Thw.region_draw (n := 13) (S := fun W => Below wv.heap.size wv W) (ds := []) #[false, false, false, false, false, false, false, false, false, false, false, false, false] (by kernel_rfl) rfl rfl (fun W => Below wv.heap.size wv W) (by repeat (first | (with_reducible first | exact HBX.out | apply below_alloc | apply pw_below_drewN | apply below_drew1) | exact HBX.out)) (fun W h => h) ?_
                  rintro ws hws
                  refine with_tabW newest13tab newest13bits (fun HT_ HW_ => ?_)
                  have BS := Aside0.mk hws
                  clear hws
                  refine pure_ (i := 1) (N := some 61) (v := ?_) (a' := ?_) #[false, true, false, false, false, false, false, false, false, false, false, false, false] rfl rfl (any_of HT_.out (by kernel_rfl)) (fun _ _ _ h => h) (Or.inl ⟨by rfl, ?_⟩) ?_ ?_
                  rotate_left
                  · intro w'
                    go_simp
                    with_reducible rfl
                  rotate_left
                  · simp only [Act.put, List.setIfInBounds_toArray, List.set_cons_zero, List.set_cons_succ, i64_w, i32_w]
                    rfl
                  refine pure_ (i := 2) (N := some 62) (v := ?_) (a' := ?_) #[false, true, true, false, false, false, false, false, false, false, false, false, false] rfl rfl (any_of HT_.out (by kernel_rfl)) (fun _ _ _ h => h) (Or.inl ⟨by rfl, ?_⟩) ?_ ?_
                  rotate_left
                  · intro w'
                    go_simp
                    with_reducible rfl
                  rotate_left
                  · simp only [Act.put, List.setIfInBounds_toArray, List.set_cons_zero, List.set_cons_succ, i64_w, i32_w]
                    rfl
                  refine pure_ (i := 3) (N := some 63) (v := ?_) (a' := ?_) #[false, true, true, true, false, false, false, false, false, false, false, false, false] rfl rfl (any_of HT_.out (by kernel_rfl)) (fun _ _ _ h => h) (Or.inl ⟨by rfl, ?_⟩) ?_ ?_
                  rotate_left
                  · intro w'
                    go_simp
                    with_reducible rfl
                  rotate_left
                  · simp only [Act.put, List.setIfInBounds_toArray, List.set_cons_zero, List.set_cons_succ, i64_w, i32_w]
                    rfl
                  refine take_ (i := 5) (N := some 65) (v := ?_) (a' := ?_) #[false, true, true, true, false, true, false, false, false, false, false, false, false] rfl rfl (take_ofW HT_.out HW_.out (by kernel_rfl)) (fun _ _ _ h => h) (Or.inl ⟨by rfl, ?_⟩) BS.out ?_ ?_
                  rotate_left
                  · intro w' hW
                    obtain ⟨k0, k1, k2, k3, kf⟩ := Thw.cells4 (blk_below XV.out hW)
                    go_simp
                    with_reducible rfl
                  rotate_left
                  · simp only [Act.put, List.setIfInBounds_toArray, List.set_cons_zero, List.set_cons_succ, i64_w, i32_w]
                    rfl
                  refine pure_ (i := 8) (N := some 68) (v := ?_) (a' := ?_) #[false, true, true, true, false, true, false, false, true, false, false, false, false] rfl rfl (any_of HT_.out (by kernel_rfl)) (fun _ _ _ h => h) (Or.inl ⟨by rfl, ?_⟩) ?_ ?_
                  rotate_left
                  · intro w'
                    go_simp
                    with_reducible rfl
                  rotate_left
                  · simp only [Act.put, List.setIfInBounds_toArray, List.set_cons_zero, List.set_cons_succ, i64_w, i32_w]
                    rfl
                  refine pure_ (i := 9) (N := some 69) (v := ?_) (a' := ?_) #[false, true, true, true, false, true, false, false, true, true, false, false, false] rfl rfl (any_of HT_.out (by kernel_rfl)) (fun _ _ _ h => h) (Or.inl ⟨by rfl, ?_⟩) ?_ ?_
                  rotate_left
                  · intro w'
                    go_simp
                    with_reducible rfl
                  rotate_left
                  · simp only [Act.put, List.setIfInBounds_toArray, List.set_cons_zero, List.set_cons_succ, i64_w, i32_w]
                    rfl
                  refine pure_ (i := 10) (N := some 70) (v := ?_) (a' := ?_) #[false, true, true, true, false, true, false, false, true, true, true, false, false] rfl rfl (any_of HT_.out (by kernel_rfl)) (fun _ _ _ h => h) (Or.inl ⟨by rfl, ?_⟩) ?_ ?_
                  rotate_left
                  · intro w'
                    go_simp
                    with_reducible rfl
                  rotate_left
                  · simp only [Act.put, List.setIfInBounds_toArray, List.set_cons_zero, List.set_cons_succ, i64_w, i32_w]
                    rfl
                  refine join_ (σ := Value × Value × Value) 3 #[true, true, true, true, true, true, true, false, true, true, true, false, false] (fun s_ => [(60, s_.1), (64, s_.2.1), (66, s_.2.2)]) (fun s_ w' => Aside0 (Below wv.heap.size wv w') ∧ Aside0 (k36.R 36 w' wv.heap.size (fun _ => True) s_.2.1 (X.take a)) ∧ ∃ A_ c_, s_.2.2 = .slice A_ 1 c_ ∧ Aside0 (k36.C w' A_ 1 [x])) ?_ ?_
                  rotate_left
                  · intro hCont
                    refine two_ (i := 0) (j := 6) (Ni := some 60) (Nj := some 66) #[true, true, true, true, false, true, false, false, true, true, true, false, false] #[false, true, true, true, false, true, true, false, true, true, true, false, false] rfl rfl rfl rfl (two_of HT_.out (by kernel_rfl)) (by decide) (by decide) (fun K hK => ?_) (fun K hK => ?_)
                    · skip
                      refine Kd.R_lit_step k36 (w0 := wv) wv.heap.size 36 ?hg (N := 60) ?hd (xs := []) (inner := []) (ok := (fun _ => True)) (okp := fun _ => False) ?hr (Reps.none _ _) (fun _ hk => hk.elim) trivial BS.out BS.out.size (by simp) ?_; (case hd => rfl); (case hg => rfl); (case hr => first | (go_simp; done) | (go_simp; rfl))
                      intro v0 w5 hR0 hB0 hg0 hat0
                      have B5 := Aside0.mk hB0
                      have R5 := Aside0.mk hR0
                      clear hR0 hB0 hg0 hat0
                      refine hK.out _ _ B5.out (fun _ => ?_)
                      clear hK K
                      refine norm_ (a' := ?_) ?_ ?_
                      rotate_left
                      · show Act.put _ (some 60) _ = _
                        simp only [Act.put, List.setIfInBounds_toArray, List.set_cons_zero, List.set_cons_succ, i64_w, i32_w]
                        rfl
                      refine two_ (i := 4) (j := 6) (Ni := some 64) (Nj := some 66) #[true, true, true, true, true, true, false, false, true, true, true, false, false] #[true, true, true, true, false, true, true, false, true, true, true, false, false] rfl rfl rfl rfl (two_of HT_.out (by kernel_rfl)) (by decide) (by decide) (fun K hK => ?_) (fun K hK => ?_)
                      · skip
                        refine Kd.R_append_rows_step k36 (w0 := wv) wv.heap.size (by rfl) (.tmp 60) (.tmp 63) 22 36 (.agg #[(.int .u64 0), (.string ⟨#[]⟩), (.string ⟨#[]⟩), (.bool false)]) 48 rfl Try.underlying22 thwartref15_Newest.info rfl (by decide) (by omega) v0 [] (X.take a) A1 n1 c1 (fun _ => True) (fun _ => False) rfl rfl R5.out (Kd.C_below CT.out B5.out) (fun x cs h => thwartref15_Newest.KM h) (fun _ h => h.elim) (fun _ _ => trivial) B5.out B5.out.size (by have h1 := HN1.out; have h2 := HN2.out; have h3 := HXL.out; simp; omega) ?_
                        intro v1 w6 hR hB hg hat
                        have B6 := Aside0.mk hB
                        have R6 := Aside0.mk hR
                        clear hR hB hg hat R5 B5
                        refine hK.out _ _ B6.out (fun _ => ?_)
                        clear hK K
                        refine norm_ (a' := ?_) ?_ ?_
                        rotate_left
                        · show Act.put _ (some 64) _ = _
                          simp only [Act.put, List.setIfInBounds_toArray, List.set_cons_zero, List.set_cons_succ, i64_w, i32_w]
                          rfl
                        refine one_ (i := 6) (N := some 66) #[true, true, true, true, true, true, true, false, true, true, true, false, false] rfl rfl (one_of HT_.out (by kernel_rfl)) (by decide) (fun K hK => ?_)
                        refine Kd.R_lit_step k36 (w0 := wv) wv.heap.size 36 ?hg (N := 66) ?hd (xs := [x]) (inner := [.int .u64 x.f0, .string x.f1, .string x.f2, .bool x.f3]) (ok := (fun _ => True)) (okp := fun _ => False) ?hr ?hp (fun _ hk => hk.elim) trivial B6.out B6.out.size (by simp) ?_; (case hd => rfl); (case hg => rfl); (case hr => first | (go_simp; done) | (go_simp; rfl)); (case hp => exact (Reps.c4 (k36_mkM _ _ _ x) (Reps.none _ _)))
                        intro v2 w7 hR hB hg hat
                        obtain ⟨A_, c_, rfl, _, hC_⟩ := Kd.R_reads hR
                        have B7 := Aside0.mk hB
                        have R7 := Aside0.mk (Kd.R_below R6.out ⟨hg.os, hg.tape, hg.output, hg.size, fun k hk => hg.block k hk (by simp)⟩)
                        have C7 := Aside0.mk hC_
                        clear hR hB hg hat hC_ R6 B6
                        refine hK.out _ _ B7.out (fun _ => ?_)
                        clear hK K
                        refine norm_ (a' := ?_) ?_ ?_
                        rotate_left
                        · show Act.put _ (some 66) _ = _
                          simp only [Act.put, List.setIfInBounds_toArray, List.set_cons_zero, List.set_cons_succ, i64_w, i32_w]
                          rfl
                        exact hCont (_, _, _) _ ⟨B7, R7, A_, c_, rfl, C7⟩
                      · skip
                        refine Kd.R_lit_step k36 (w0 := wv) wv.heap.size 36 ?hg (N := 66) ?hd (xs := [x]) (inner := [.int .u64 x.f0, .string x.f1, .string x.f2, .bool x.f3]) (ok := (fun k => some k ≠ v0.ownBlock)) (okp := fun _ => False) ?hr ?hp (fun _ hk => hk.elim) (fun e => by have := Kd.R_lt R5.out _ e.symm; omega) B5.out B5.out.size (by simp) ?_; (case hd => rfl); (case hg => rfl); (case hr => first | (go_simp; done) | (go_simp; rfl)); (case hp => exact (Reps.c4 (k36_mkM _ _ _ x) (Reps.none _ _)))
                        intro v2 w6 hR hB hg hat
                        have B6 := Aside0.mk hB
                        have R6 := Aside0.mk (Kd.R_below R5.out ⟨hg.os, hg.tape, hg.output, hg.size, fun k hk => hg.block k hk (by simp)⟩)
                        have V6 := Aside0.mk hR
                        clear hR hB hg hat R5 B5
                        refine hK.out _ _ B6.out (fun _ => ?_)
                        clear hK K
                        refine norm_ (a' := ?_) ?_ ?_
                        rotate_left
                        · show Act.put _ (some 66) _ = _
                          simp only [Act.put, List.setIfInBounds_toArray, List.set_cons_zero, List.set_cons_succ, i64_w, i32_w]
                          rfl
                        refine one_ (i := 4) (N := some 64) #[true, true, true, true, true, true, true, false, true, true, true, false, false] rfl rfl (one_of HT_.out (by kernel_rfl)) (by decide) (fun K hK => ?_)
                        refine Kd.R_append_rows_step k36 (w0 := wv) wv.heap.size (by rfl) (.tmp 60) (.tmp 63) 22 36 (.agg #[(.int .u64 0), (.string ⟨#[]⟩), (.string ⟨#[]⟩), (.bool false)]) 48 rfl Try.underlying22 thwartref15_Newest.info rfl (by decide) (by omega) v0 [] (X.take a) A1 n1 c1 (fun _ => True) (fun _ => False) rfl rfl R6.out (Kd.C_below CT.out B6.out) (fun x cs h => thwartref15_Newest.KM h) (fun _ h => h.elim) (fun _ _ => trivial) B6.out B6.out.size (by have h1 := HN1.out; have h2 := HN2.out; have h3 := HXL.out; simp; omega) ?_
                        intro v1 w7 hR hB hg hat
                        obtain ⟨A_, c_, rfl, _, hC_⟩ := Kd.R_reads (Kd.R_grown V6.out hg (fun _ h => h))
                        have B7 := Aside0.mk hB
                        have R7 := Aside0.mk hR
                        have C7 := Aside0.mk hC_
                        clear hR hB hg hat hC_ R6 B6 V6
                        refine hK.out _ _ B7.out (fun _ => ?_)
                        clear hK K
                        refine norm_ (a' := ?_) ?_ ?_
                        rotate_left
                        · show Act.put _ (some 64) _ = _
                          simp only [Act.put, List.setIfInBounds_toArray, List.set_cons_zero, List.set_cons_succ, i64_w, i32_w]
                          rfl
                        exact hCont (_, _, _) _ ⟨B7, R7, A_, c_, rfl, C7⟩
                    · skip
                      refine Kd.R_lit_step k36 (w0 := wv) wv.heap.size 36 ?hg (N := 66) ?hd (xs := [x]) (inner := [.int .u64 x.f0, .string x.f1, .string x.f2, .bool x.f3]) (ok := (fun _ => True)) (okp := fun _ => False) ?hr ?hp (fun _ hk => hk.elim) trivial BS.out BS.out.size (by simp) ?_; (case hd => rfl); (case hg => rfl); (case hr => first | (go_simp; done) | (go_simp; rfl)); (case hp => exact (Reps.c4 (k36_mkM _ _ _ x) (Reps.none _ _)))
                      intro v2 w5 hR hB hg hat
                      have B5 := Aside0.mk hB
                      have V5 := Aside0.mk hR
                      clear hR hB hg hat
                      refine hK.out _ _ B5.out (fun _ => ?_)
                      clear hK K
                      refine norm_ (a' := ?_) ?_ ?_
                      rotate_left
                      · show Act.put _ (some 66) _ = _
                        simp only [Act.put, List.setIfInBounds_toArray, List.set_cons_zero, List.set_cons_succ, i64_w, i32_w]
                        rfl
                      refine one_ (i := 0) (N := some 60) #[true, true, true, true, false, true, true, false, true, true, true, false, false] rfl rfl (one_of HT_.out (by kernel_rfl)) (by decide) (fun K hK => ?_)
                      refine Kd.R_lit_step k36 (w0 := wv) wv.heap.size 36 ?hg (N := 60) ?hd (xs := []) (inner := []) (ok := (fun _ => True)) (okp := fun _ => False) ?hr (Reps.none _ _) (fun _ hk => hk.elim) trivial B5.out B5.out.size (by simp) ?_; (case hd => rfl); (case hg => rfl); (case hr => first | (go_simp; done) | (go_simp; rfl))
                      intro v0 w6 hR hB hg hat
                      obtain ⟨b_, hb_, hb2_⟩ := hat
                      have B6 := Aside0.mk hB
                      have R6 := Aside0.mk hR
                      have V6 := Aside0.mk (Kd.R_mono (Kd.R_below (Kd.R_bound V5.out) ⟨hg.os, hg.tape, hg.output, hg.size, fun k hk => hg.block k hk (by simp)⟩) (ok' := fun k => some k ≠ v0.ownBlock) (fun k hk e => by rw [hb_] at e; injection e with e; have := hk.2.2.1; omega))
                      clear hR hB hg hb_ hb2_ B5 V5
                      refine hK.out _ _ B6.out (fun _ => ?_)
                      clear hK K
                      refine norm_ (a' := ?_) ?_ ?_
                      rotate_left
                      · show Act.put _ (some 60) _ = _
                        simp only [Act.put, List.setIfInBounds_toArray, List.set_cons_zero, List.set_cons_succ, i64_w, i32_w]
                        rfl
                      refine one_ (i := 4) (N := some 64) #[true, true, true, true, true, true, true, false, true, true, true, false, false] rfl rfl (one_of HT_.out (by kernel_rfl)) (by decide) (fun K hK => ?_)
                      refine Kd.R_append_rows_step k36 (w0 := wv) wv.heap.size (by rfl) (.tmp 60) (.tmp 63) 22 36 (.agg #[(.int .u64 0), (.string ⟨#[]⟩), (.string ⟨#[]⟩), (.bool false)]) 48 rfl Try.underlying22 thwartref15_Newest.info rfl (by decide) (by omega) v0 [] (X.take a) A1 n1 c1 (fun _ => True) (fun _ => False) rfl rfl R6.out (Kd.C_below CT.out B6.out) (fun x cs h => thwartref15_Newest.KM h) (fun _ h => h.elim) (fun _ _ => trivial) B6.out B6.out.size (by have h1 := HN1.out; have h2 := HN2.out; have h3 := HXL.out; simp; omega) ?_
                      intro v1 w7 hR hB hg hat
                      obtain ⟨A_, c_, rfl, _, hC_⟩ := Kd.R_reads (Kd.R_grown V6.out hg (fun _ h => h))
                      have B7 := Aside0.mk hB
                      have R7 := Aside0.mk hR
                      have C7 := Aside0.mk hC_
                      clear hR hB hg hat hC_ R6 B6 V6
                      refine hK.out _ _ B7.out (fun _ => ?_)
                      clear hK K
                      refine norm_ (a' := ?_) ?_ ?_
                      rotate_left
                      · show Act.put _ (some 64) _ = _
                        simp only [Act.put, List.setIfInBounds_toArray, List.set_cons_zero, List.set_cons_succ, i64_w, i32_w]
                        rfl
                      exact hCont (_, _, _) _ ⟨B7, R7, A_, c_, rfl, C7⟩
                  rintro ⟨v0, v1, v2⟩ w7 ⟨B7, R7, A_, c_, hv_, C7⟩
                  simp only at R7 hv_
                  subst hv_
                  refine norm_ (a' := ?_) ?_ ?_
                  rotate_left
                  · simp only [putAll, List.foldl_cons, List.foldl_nil, Act.put, List.setIfInBounds_toArray, List.set_cons_zero, List.set_cons_succ]
                    rfl
                  refine one_ (i := 7) (N := some 67) #[true, true, true, true, true, true, true, true, true, true, true, false, false] rfl rfl (one_of HT_.out (by kernel_rfl)) (by decide) (fun K hK => ?_)
                  refine Kd.R_append_rows_step k36 (w0 := wv) wv.heap.size (by rfl) (.tmp 64) (.tmp 66) 22 36 (.agg #[(.int .u64 0), (.string ⟨#[]⟩), (.string ⟨#[]⟩), (.bool false)]) 48 rfl Try.underlying22 thwartref15_Newest.info rfl (by decide) (by omega) v1 (X.take a) [x] A_ 1 c_ (fun _ => True) (fun _ => False) rfl rfl R7.out C7.out (fun x cs h => thwartref15_Newest.KM h) (fun _ h => h.elim) (fun _ _ => trivial) B7.out B7.out.size (by have h1 := HN1.out; have h2 := HN2.out; have h3 := HXL.out; simp; omega) ?_
                  intro v3 w8 hR hB hg hat
                  have B8 := Aside0.mk hB
                  have R8 := Aside0.mk hR
                  clear hR hB hg hat B7 R7 C7
                  refine hK.out _ _ B8.out (fun _ => ?_)
                  clear hK K
                  refine norm_ (a' := ?_) ?_ ?_
                  rotate_left
                  · show Act.put _ (some 67) _ = _
                    simp only [Act.put, List.setIfInBounds_toArray, List.set_cons_zero, List.set_cons_succ, i64_w, i32_w]
                    rfl
                  refine one_ (i := 11) (N := some 71) #[true, true, true, true, true, true, true, true, true, true, true, true, false] rfl rfl (one_of HT_.out (by kernel_rfl)) (by decide) (fun K hK => ?_)
                  refine Kd.R_append_rows_step k36 (w0 := wv) wv.heap.size (by rfl) (.tmp 67) (.tmp 70) 22 36 (.agg #[(.int .u64 0), (.string ⟨#[]⟩), (.string ⟨#[]⟩), (.bool false)]) 48 rfl Try.underlying22 thwartref15_Newest.info rfl (by decide) (by omega) v3 ((X.take a) ++ [x]) (X.drop a) A2 n2 c2 (fun _ => True) (fun _ => False) rfl rfl R8.out (Kd.C_below CD.out B8.out) (fun x cs h => thwartref15_Newest.KM h) (fun _ h => h.elim) (fun _ _ => trivial) B8.out B8.out.size (by have h1 := HN1.out; have h2 := HN2.out; have h3 := HXL.out; simp; omega) ?_
                  intro v4 w9 hR hB hg hat
                  have B9 := Aside0.mk hB
                  have R9 := Aside0.mk hR
                  clear hR hB hg hat B8 R8
                  refine hK.out _ _ B9.out (fun _ => ?_)
                  clear hK K
                  refine norm_ (a' := ?_) ?_ ?_
                  rotate_left
                  · show Act.put _ (some 71) _ = _
                    simp only [Act.put, List.setIfInBounds_toArray, List.set_cons_zero, List.set_cons_succ, i64_w, i32_w]
                    rfl
                  refine pure_ (i := 12) (N := some 3) (v := ?_) (a' := ?_) #[true, true, true, true, true, true, true, true, true, true, true, true, true] rfl rfl (any_of HT_.out (by kernel_rfl)) (fun _ _ _ h => h) (Or.inl ⟨by rfl, ?_⟩) ?_ ?_
                  rotate_left
                  · intro w'
                    go_simp
                    with_reducible rfl
                  rotate_left
                  · simp only [Act.put, List.setIfInBounds_toArray, List.set_cons_zero, List.set_cons_succ, i64_w, i32_w]
                    rfl
                  refine done_ (done_of HT_.out (by kernel_rfl)) ?_
                  go_wp2_with fail
                  go_roundw
                  case rel => exact ⟨j + 1, by omega, by have := HM.out; go_num, ⟨by rw [HI.out]; exact Kd.R_lower R9.out (by have := BV.out.size; omega)⟩, ⟨BV.out.trans (B9.out.mono BV.out.size)⟩⟩
                  case measure => simp [intOf]; omega
            · have d3 : decide ((a : Int) < (X.length : Int)) = false := decide_eq_false (by omega)
              have haa : a = X.length := by omega
              subst haa
              have e1 : ((X.length : Int) == (X.length : Int)) = true := beq_self_eq_true _
              have HI := Aside0.mk (Thw.insN_new_at (fun x : S36 => x.f1) (fun x : S36 => x.f0) X x X.length ha (fun j h hj => (Thw.lessB_iff _ _).1 (HA.out j h hj)) (fun hh => by omega))
              rw [← HNX.out] at HI
              go_wp2
              repeat (go_quiet (fail); try go_wp2)
              have hC7 := (Kd.R_reads' RV.out)
              obtain ⟨A1, c1, A2, c2, hcut1, hCT, hcut2, hCD⟩ := Thw.cut_two (P := Try.prog) 22 36 Try.underlying22 thwartref15_Newest.info hC7.2.2 hC7.2.1 X.length ha
              obtain ⟨n1, hn1⟩ : ∃ n_ : Nat, (X.take X.length).length = n_ := ⟨_, rfl⟩
              obtain ⟨n2, hn2⟩ : ∃ n_ : Nat, (X.drop X.length).length = n_ := ⟨_, rfl⟩
              rw [hn1] at hcut1 hCT
              rw [hn2] at hcut2 hCD
              have HN1 := Aside0.mk (show n1 ≤ 1000000 by rw [← hn1, List.length_take]; have := HXL.out; omega)
              have HN2 := Aside0.mk (show n2 ≤ 1000000 by rw [← hn2, List.length_drop]; have := HXL.out; omega)
              clear hn1 hn2
              have CT := Aside0.mk hCT
              have CD := Aside0.mk hCD
              clear hCT hCD hC7
              have hhx := HXL.out
              refine Thw.region_draw (n := 13) (S := fun W => Below wv.heap.size wv W) (ds := []) #[false, false, false, false, false, false, false, false, false, false, false, false, false] (by kernel_rfl) rfl rfl (fun W => Below wv.heap.size wv W) (by repeat (first | (with_reducible first | exact HBX.out | apply below_alloc | apply pw_below_drewN | apply below_drew1) | exact HBX.out)) (fun W h => h) ?_
              rintro ws hws
              refine with_tabW newest13tab newest13bits (fun HT_ HW_ => ?_)
              have BS := Aside0.mk hws
              clear hws
              refine pure_ (i := 1) (N := some 61) (v := ?_) (a' := ?_) #[false, true, false, false, false, false, false, false, false, false, false, false, false] rfl rfl (any_of HT_.out (by kernel_rfl)) (fun _ _ _ h => h) (Or.inl ⟨by rfl, ?_⟩) ?_ ?_
              rotate_left
              · intro w'
                go_simp
                with_reducible rfl
              rotate_left
              · simp only [Act.put, List.setIfInBounds_toArray, List.set_cons_zero, List.set_cons_succ, i64_w, i32_w]
                rfl
              refine pure_ (i := 2) (N := some 62) (v := ?_) (a' := ?_) #[false, true, true, false, false, false, false, false, false, false, false, false, false] rfl rfl (any_of HT_.out (by kernel_rfl)) (fun _ _ _ h => h) (Or.inl ⟨by rfl, ?_⟩) ?_ ?_
              rotate_left
              · intro w'
                go_simp
                with_reducible rfl
              rotate_left
              · simp only [Act.put, List.setIfInBounds_toArray, List.set_cons_zero, List.set_cons_succ, i64_w, i32_w]
                rfl
              refine pure_ (i := 3) (N := some 63) (v := ?_) (a' := ?_) #[false, true, true, true, false, false, false, false, false, false, false, false, false] rfl rfl (any_of HT_.out (by kernel_rfl)) (fun _ _ _ h => h) (Or.inl ⟨by rfl, ?_⟩) ?_ ?_
              rotate_left
              · intro w'
                go_simp
                with_reducible rfl
              rotate_left
              · simp only [Act.put, List.setIfInBounds_toArray, List.set_cons_zero, List.set_cons_succ, i64_w, i32_w]
                rfl
              refine take_ (i := 5) (N := some 65) (v := ?_) (a' := ?_) #[false, true, true, true, false, true, false, false, false, false, false, false, false] rfl rfl (take_ofW HT_.out HW_.out (by kernel_rfl)) (fun _ _ _ h => h) (Or.inl ⟨by rfl, ?_⟩) BS.out ?_ ?_
              rotate_left
              · intro w' hW
                obtain ⟨k0, k1, k2, k3, kf⟩ := Thw.cells4 (blk_below XV.out hW)
                go_simp
                with_reducible rfl
              rotate_left
              · simp only [Act.put, List.setIfInBounds_toArray, List.set_cons_zero, List.set_cons_succ, i64_w, i32_w]
                rfl
              refine pure_ (i := 8) (N := some 68) (v := ?_) (a' := ?_) #[false, true, true, true, false, true, false, false, true, false, false, false, false] rfl rfl (any_of HT_.out (by kernel_rfl)) (fun _ _ _ h => h) (Or.inl ⟨by rfl, ?_⟩) ?_ ?_
              rotate_left
              · intro w'
                go_simp
                with_reducible rfl
              rotate_left
              · simp only [Act.put, List.setIfInBounds_toArray, List.set_cons_zero, List.set_cons_succ, i64_w, i32_w]
                rfl
              refine pure_ (i := 9) (N := some 69) (v := ?_) (a' := ?_) #[false, true, true, true, false, true, false, false, true, true, false, false, false] rfl rfl (any_of HT_.out (by kernel_rfl)) (fun _ _ _ h => h) (Or.inl ⟨by rfl, ?_⟩) ?_ ?_
              rotate_left
              · intro w'
                go_simp
                with_reducible rfl
              rotate_left
              · simp only [Act.put, List.setIfInBounds_toArray, List.set_cons_zero, List.set_cons_succ, i64_w, i32_w]
                rfl
              refine pure_ (i := 10) (N := some 70) (v := ?_) (a' := ?_) #[false, true, true, true, false, true, false, false, true, true, true, false, false] rfl rfl (any_of HT_.out (by kernel_rfl)) (fun _ _ _ h => h) (Or.inl ⟨by rfl, ?_⟩) ?_ ?_
              rotate_left
              · intro w'
                go_simp
                with_reducible rfl
              rotate_left
              · simp only [Act.put, List.setIfInBounds_toArray, List.set_cons_zero, List.set_cons_succ, i64_w, i32_w]
                rfl
              refine join_ (σ := Value × Value × Value) 3 #[true, true, true, true, true, true, true, false, true, true, true, false, false] (fun s_ => [(60, s_.1), (64, s_.2.1), (66, s_.2.2)]) (fun s_ w' => Aside0 (Below wv.heap.size wv w') ∧ Aside0 (k36.R 36 w' wv.heap.size (fun _ => True) s_.2.1 (X.take X.length)) ∧ ∃ A_ c_, s_.2.2 = .slice A_ 1 c_ ∧ Aside0 (k36.C w' A_ 1 [x])) ?_ ?_
              rotate_left
              · intro hCont
                refine two_ (i := 0) (j := 6) (Ni := some 60) (Nj := some 66) #[true, true, true, true, false, true, false, false, true, true, true, false, false] #[false, true, true, true, false, true, true, false, true, true, true, false, false] rfl rfl rfl rfl (two_of HT_.out (by kernel_rfl)) (by decide) (by decide) (fun K hK => ?_) (fun K hK => ?_)
                · skip
                  refine Kd.R_lit_step k36 (w0 := wv) wv.heap.size 36 ?hg (N := 60) ?hd (xs := []) (inner := []) (ok := (fun _ => True)) (okp := fun _ => False) ?hr (Reps.none _ _) (fun _ hk => hk.elim) trivial BS.out BS.out.size (by simp) ?_; (case hd => rfl); (case hg => rfl); (case hr => first | (go_simp; done) | (go_simp; rfl))
                  intro v0 w5 hR0 hB0 hg0 hat0
                  have B5 := Aside0.mk hB0
                  have R5 := Aside0.mk hR0
                  clear hR0 hB0 hg0 hat0
                  refine hK.out _ _ B5.out (fun _ => ?_)
                  clear hK K
                  refine norm_ (a' := ?_) ?_ ?_
                  rotate_left
                  · show Act.put _ (some 60) _ = _
                    simp only [Act.put, List.setIfInBounds_toArray, List.set_cons_zero, List.set_cons_succ, i64_w, i32_w]
                    rfl
                  refine two_ (i := 4) (j := 6) (Ni := some 64) (Nj := some 66) #[true, true, true, true, true, true, false, false, true, true, true, false, false] #[true, true, true, true, false, true, true, false, true, true, true, false, false] rfl rfl rfl rfl (two_of HT_.out (by kernel_rfl)) (by decide) (by decide) (fun K hK => ?_) (fun K hK => ?_)
                  · skip
                    refine Kd.R_append_rows_step k36 (w0 := wv) wv.heap.size (by rfl) (.tmp 60) (.tmp 63) 22 36 (.agg #[(.int .u64 0), (.string ⟨#[]⟩), (.string ⟨#[]⟩), (.bool false)]) 48 rfl Try.underlying22 thwartref15_Newest.info rfl (by decide) (by omega) v0 [] (X.take X.length) A1 n1 c1 (fun _ => True) (fun _ => False) rfl rfl R5.out (Kd.C_below CT.out B5.out) (fun x cs h => thwartref15_Newest.KM h) (fun _ h => h.elim) (fun _ _ => trivial) B5.out B5.out.size (by have h1 := HN1.out; have h2 := HN2.out; have h3 := HXL.out; simp; omega) ?_
                    intro v1 w6 hR hB hg hat
                    have B6 := Aside0.mk hB
                    have R6 := Aside0.mk hR
                    clear hR hB hg hat R5 B5
                    refine hK.out _ _ B6.out (fun _ => ?_)
                    clear hK K
                    refine norm_ (a' := ?_) ?_ ?_
                    rotate_left
                    · show Act.put _ (some 64) _ = _
                      simp only [Act.put, List.setIfInBounds_toArray, List.set_cons_zero, List.set_cons_succ, i64_w, i32_w]
                      rfl
                    refine one_ (i := 6) (N := some 66) #[true, true, true, true, true, true, true, false, true, true, true, false, false] rfl rfl (one_of HT_.out (by kernel_rfl)) (by decide) (fun K hK => ?_)
                    refine Kd.R_lit_step k36 (w0 := wv) wv.heap.size 36 ?hg (N := 66) ?hd (xs := [x]) (inner := [.int .u64 x.f0, .string x.f1, .string x.f2, .bool x.f3]) (ok := (fun _ => True)) (okp := fun _ => False) ?hr ?hp (fun _ hk => hk.elim) trivial B6.out B6.out.size (by simp) ?_; (case hd => rfl); (case hg => rfl); (case hr => first | (go_simp; done) | (go_simp; rfl)); (case hp => exact (Reps.c4 (k36_mkM _ _ _ x) (Reps.none _ _)))
                    intro v2 w7 hR hB hg hat
                    obtain ⟨A_, c_, rfl, _, hC_⟩ := Kd.R_reads hR
                    have B7 := Aside0.mk hB
                    have R7 := Aside0.mk (Kd.R_below R6.out ⟨hg.os, hg.tape, hg.output, hg.size, fun k hk => hg.block k hk (by simp)⟩)
                    have C7 := Aside0.mk hC_
                    clear hR hB hg hat hC_ R6 B6
                    refine hK.out _ _ B7.out (fun _ => ?_)
                    clear hK K
                    refine norm_ (a' := ?_) ?_ ?_
                    rotate_left
                    · show Act.put _ (some 66) _ = _
                      simp only [Act.put, List.setIfInBounds_toArray, List.set_cons_zero, List.set_cons_succ, i64_w, i32_w]
                      rfl
                    exact hCont (_, _, _) _ ⟨B7, R7, A_, c_, rfl, C7⟩
                  · skip
                    refine Kd.R_lit_step k36 (w0 := wv) wv.heap.size 36 ?hg (N := 66) ?hd (xs := [x]) (inner := [.int .u64 x.f0, .string x.f1, .string x.f2, .bool x.f3]) (ok := (fun k => some k ≠ v0.ownBlock)) (okp := fun _ => False) ?hr ?hp (fun _ hk => hk.elim) (fun e => by have := Kd.R_lt R5.out _ e.symm; omega) B5.out B5.out.size (by simp) ?_; (case hd => rfl); (case hg => rfl); (case hr => first | (go_simp; done) | (go_simp; rfl)); (case hp => exact (Reps.c4 (k36_mkM _ _ _ x) (Reps.none _ _)))
                    intro v2 w6 hR hB hg hat
                    have B6 := Aside0.mk hB
                    have R6 := Aside0.mk (Kd.R_below R5.out ⟨hg.os, hg.tape, hg.output, hg.size, fun k hk => hg.block k hk (by simp)⟩)
                    have V6 := Aside0.mk hR
                    clear hR hB hg hat R5 B5
                    refine hK.out _ _ B6.out (fun _ => ?_)
                    clear hK K
                    refine norm_ (a' := ?_) ?_ ?_
                    rotate_left
                    · show Act.put _ (some 66) _ = _
                      simp only [Act.put, List.setIfInBounds_toArray, List.set_cons_zero, List.set_cons_succ, i64_w, i32_w]
                      rfl
                    refine one_ (i := 4) (N := some 64) #[true, true, true, true, true, true, true, false, true, true, true, false, false] rfl rfl (one_of HT_.out (by kernel_rfl)) (by decide) (fun K hK => ?_)
                    refine Kd.R_append_rows_step k36 (w0 := wv) wv.heap.size (by rfl) (.tmp 60) (.tmp 63) 22 36 (.agg #[(.int .u64 0), (.string ⟨#[]⟩), (.string ⟨#[]⟩), (.bool false)]) 48 rfl Try.underlying22 thwartref15_Newest.info rfl (by decide) (by omega) v0 [] (X.take X.length) A1 n1 c1 (fun _ => True) (fun _ => False) rfl rfl R6.out (Kd.C_below CT.out B6.out) (fun x cs h => thwartref15_Newest.KM h) (fun _ h => h.elim) (fun _ _ => trivial) B6.out B6.out.size (by have h1 := HN1.out; have h2 := HN2.out; have h3 := HXL.out; simp; omega) ?_
                    intro v1 w7 hR hB hg hat
                    obtain ⟨A_, c_, rfl, _, hC_⟩ := Kd.R_reads (Kd.R_grown V6.out hg (fun _ h => h))
                    have B7 := Aside0.mk hB
                    have R7 := Aside0.mk hR
                    have C7 := Aside0.mk hC_
                    clear hR hB hg hat hC_ R6 B6 V6
                    refine hK.out _ _ B7.out (fun _ => ?_)
                    clear hK K
                    refine norm_ (a' := ?_) ?_ ?_
                    rotate_left
                    · show Act.put _ (some 64) _ = _
                      simp only [Act.put, List.setIfInBounds_toArray, List.set_cons_zero, List.set_cons_succ, i64_w, i32_w]
                      rfl
                    exact hCont (_, _, _) _ ⟨B7, R7, A_, c_, rfl, C7⟩
                · skip
                  refine Kd.R_lit_step k36 (w0 := wv) wv.heap.size 36 ?hg (N := 66) ?hd (xs := [x]) (inner := [.int .u64 x.f0, .string x.f1, .string x.f2, .bool x.f3]) (ok := (fun _ => True)) (okp := fun _ => False) ?hr ?hp (fun _ hk => hk.elim) trivial BS.out BS.out.size (by simp) ?_; (case hd => rfl); (case hg => rfl); (case hr => first | (go_simp; done) | (go_simp; rfl)); (case hp => exact (Reps.c4 (k36_mkM _ _ _ x) (Reps.none _ _)))
                  intro v2 w5 hR hB hg hat
                  have B5 := Aside0.mk hB
                  have V5 := Aside0.mk hR
                  clear hR hB hg hat
                  refine hK.out _ _ B5.out (fun _ => ?_)
                  clear hK K
                  refine norm_ (a' := ?_) ?_ ?_
                  rotate_left
                  · show Act.put _ (some 66) _ = _
                    simp only [Act.put, List.setIfInBounds_toArray, List.set_cons_zero, List.set_cons_succ, i64_w, i32_w]
                    rfl
                  refine one_ (i := 0) (N := some 60) #[true, true, true, true, false, true, true, false, true, true, true, false, false] rfl rfl (one_of HT_.out (by kernel_rfl)) (by decide) (fun K hK => ?_)
                  refine Kd.R_lit_step k36 (w0 := wv) wv.heap.size 36 ?hg (N := 60) ?hd (xs := []) (inner := []) (ok := (fun _ => True)) (okp := fun _ => False) ?hr (Reps.none _ _) (fun _ hk => hk.elim) trivial B5.out B5.out.size (by simp) ?_; (case hd => rfl); (case hg => rfl); (case hr => first | (go_simp; done) | (go_simp; rfl))
                  intro v0 w6 hR hB hg hat
                  obtain ⟨b_, hb_, hb2_⟩ := hat
                  have B6 := Aside0.mk hB
                  have R6 := Aside0.mk hR
                  have V6 := Aside0.mk (Kd.R_mono (Kd.R_below (Kd.R_bound V5.out) ⟨hg.os, hg.tape, hg.output, hg.size, fun k hk => hg.block k hk (by simp)⟩) (ok' := fun k => some k ≠ v0.ownBlock) (fun k hk e => by rw [hb_] at e; injection e with e; have := hk.2.2.1; omega))
                  clear hR hB hg hb_ hb2_ B5 V5
                  refine hK.out _ _ B6.out (fun _ => ?_)
                  clear hK K
                  refine norm_ (a' := ?_) ?_ ?_
                  rotate_left
                  · show Act.put _ (some 60) _ = _
                    simp only [Act.put, List.setIfInBounds_toArray, List.set_cons_zero, List.set_cons_succ, i64_w, i32_w]
                    rfl
                  refine one_ (i := 4) (N := some 64) #[true, true, true, true, true, true, true, false, true, true, true, false, false] rfl rfl (one_of HT_.out (by kernel_rfl)) (by decide) (fun K hK => ?_)
                  refine Kd.R_append_rows_step k36 (w0 := wv) wv.heap.size (by rfl) (.tmp 60) (.tmp 63) 22 36 (.agg #[(.int .u64 0), (.string ⟨#[]⟩), (.string ⟨#[]⟩), (.bool false)]) 48 rfl Try.underlying22 thwartref15_Newest.info rfl (by decide) (by omega) v0 [] (X.take X.length) A1 n1 c1 (fun _ => True) (fun _ => False) rfl rfl R6.out (Kd.C_below CT.out B6.out) (fun x cs h => thwartref15_Newest.KM h) (fun _ h => h.elim) (fun _ _ => trivial) B6.out B6.out.size (by have h1 := HN1.out; have h2 := HN2.out; have h3 := HXL.out; simp; omega) ?_
                  intro v1 w7 hR hB hg hat
                  obtain ⟨A_, c_, rfl, _, hC_⟩ := Kd.R_reads (Kd.R_grown V6.out hg (fun _ h => h))
                  have B7 := Aside0.mk hB
                  have R7 := Aside0.mk hR
                  have C7 := Aside0.mk hC_
                  clear hR hB hg hat hC_ R6 B6 V6
                  refine hK.out _ _ B7.out (fun _ => ?_)
                  clear hK K
                  refine norm_ (a' := ?_) ?_ ?_
                  rotate_left
                  · show Act.put _ (some 64) _ = _
                    simp only [Act.put, List.setIfInBounds_toArray, List.set_cons_zero, List.set_cons_succ, i64_w, i32_w]
                    rfl
                  exact hCont (_, _, _) _ ⟨B7, R7, A_, c_, rfl, C7⟩
              rintro ⟨v0, v1, v2⟩ w7 ⟨B7, R7, A_, c_, hv_, C7⟩
              simp only at R7 hv_
              subst hv_
              refine norm_ (a' := ?_) ?_ ?_
              rotate_left
              · simp only [putAll, List.foldl_cons, List.foldl_nil, Act.put, List.setIfInBounds_toArray, List.set_cons_zero, List.set_cons_succ]
                rfl
              refine one_ (i := 7) (N := some 67) #[true, true, true, true, true, true, true, true, true, true, true, false, false] rfl rfl (one_of HT_.out (by kernel_rfl)) (by decide) (fun K hK => ?_)
              refine Kd.R_append_rows_step k36 (w0 := wv) wv.heap.size (by rfl) (.tmp 64) (.tmp 66) 22 36 (.agg #[(.int .u64 0), (.string ⟨#[]⟩), (.string ⟨#[]⟩), (.bool false)]) 48 rfl Try.underlying22 thwartref15_Newest.info rfl (by decide) (by omega) v1 (X.take X.length) [x] A_ 1 c_ (fun _ => True) (fun _ => False) rfl rfl R7.out C7.out (fun x cs h => thwartref15_Newest.KM h) (fun _ h => h.elim) (fun _ _ => trivial) B7.out B7.out.size (by have h1 := HN1.out; have h2 := HN2.out; have h3 := HXL.out; simp; omega) ?_
              intro v3 w8 hR hB hg hat
              have B8 := Aside0.mk hB
              have R8 := Aside0.mk hR
              clear hR hB hg hat B7 R7 C7
              refine hK.out _ _ B8.out (fun _ => ?_)
              clear hK K
              refine norm_ (a' := ?_) ?_ ?_
              rotate_left
              · show Act.put _ (some 67) _ = _
                simp only [Act.put, List.setIfInBounds_toArray, List.set_cons_zero, List.set_cons_succ, i64_w, i32_w]
                rfl
              refine one_ (i := 11) (N := some 71) #[true, true, true, true, true, true, true, true, true, true, true, true, false] rfl rfl (one_of HT_.out (by kernel_rfl)) (by decide) (fun K hK => ?_)
              refine Kd.R_append_rows_step k36 (w0 := wv) wv.heap.size (by rfl) (.tmp 67) (.tmp 70) 22 36 (.agg #[(.int .u64 0), (.string ⟨#[]⟩), (.string ⟨#[]⟩), (.bool false)]) 48 rfl Try.underlying22 thwartref15_Newest.info rfl (by decide) (by omega) v3 ((X.take X.length) ++ [x]) (X.drop X.length) A2 n2 c2 (fun _ => True) (fun _ => False) rfl rfl R8.out (Kd.C_below CD.out B8.out) (fun x cs h => thwartref15_Newest.KM h) (fun _ h => h.elim) (fun _ _ => trivial) B8.out B8.out.size (by have h1 := HN1.out; have h2 := HN2.out; have h3 := HXL.out; simp; omega) ?_
              intro v4 w9 hR hB hg hat
              have B9 := Aside0.mk hB
              have R9 := Aside0.mk hR
              clear hR hB hg hat B8 R8
              refine hK.out _ _ B9.out (fun _ => ?_)
              clear hK K
              refine norm_ (a' := ?_) ?_ ?_
              rotate_left
              · show Act.put _ (some 71) _ = _
                simp only [Act.put, List.setIfInBounds_toArray, List.set_cons_zero, List.set_cons_succ, i64_w, i32_w]
                rfl
              refine pure_ (i := 12) (N := some 3) (v := ?_) (a' := ?_) #[true, true, true, true, true, true, true, true, true, true, true, true, true] rfl rfl (any_of HT_.out (by kernel_rfl)) (fun _ _ _ h => h) (Or.inl ⟨by rfl, ?_⟩) ?_ ?_
              rotate_left
              · intro w'
                go_simp
                with_reducible rfl
              rotate_left
              · simp only [Act.put, List.setIfInBounds_toArray, List.set_cons_zero, List.set_cons_succ, i64_w, i32_w]
                rfl
              refine done_ (done_of HT_.out (by kernel_rfl)) ?_
              go_wp2_with fail
              go_roundw
              case rel => exact ⟨j + 1, by omega, by have := HM.out; go_num, ⟨by rw [HI.out]; exact Kd.R_lower R9.out (by have := BV.out.size; omega)⟩, ⟨BV.out.trans (B9.out.mono BV.out.size)⟩⟩
              case measure => simp [intOf]; omega
        · have d2 : decide ((j : Int) < (xs.length : Int)) = false := decide_eq_false (by omega)
          have hjj : j = xs.length := by omega
          subst hjj
          go_wp2_with fail
          go_roundw
          case rel => exact ⟨i + 1, by omega, by go_num, ⟨by rw [HT2.out]; exact HR.out⟩, HB⟩
          case measure => simp [intOf]; omega
    · have d1 : decide ((i : Int) < (l0.length : Int)) = false := decide_eq_false (by omega)
      have hii : i = l0.length := by omega
      subst hii
      rw [List.take_length] at HR ⊢
      go_wp2_with fail
      go_ret
      exact ⟨_, rfl, HR.out, HB.out⟩

/-! ### thwartref15_Live: function 11 -/
def thwartref15_Live.l0 : Nat → List (S36) → List (S36) → Int → Option ((List (S36)))
 | 0,_,_,_ => none
 | k + 1,x3,x4,x5 => if x5 < (x4.length : Int) then (if 0 ≤ x5 then (if ((rd_T36 x4 x5).f3 = true) then (thwartref15_Live.l0 k x3 x4 (wrap64 (x5 + 1))) else (if x3.length < 2932031007402 then (thwartref15_Live.l0 k (x3 ++ [(⟨(rd_T36 x4 x5).f0,(rd_T36 x4 x5).f1,(rd_T36 x4 x5).f2,(rd_T36 x4 x5).f3⟩ : S36)]) x4 (wrap64 (x5 + 1))) else (none))) else (none)) else (some x3)
def thwartref15_Live.f (k : Nat) (l0 : List (List (S36))) : Option ((List (S36))):=(thwartref15_Newest.f l0).bind fun t113 => (thwartref15_Live.l0 k ([] : List (S36)) t113 0)
theorem thwartref15_Live.mono_l : ∀ k,(∀ y0 y1 y2,LeO (thwartref15_Live.l0 k y0 y1 y2) (thwartref15_Live.l0 (k + 1) y0 y1 y2))
 | 0 => fun _ _ _ r h => by simp [thwartref15_Live.l0] at h
 | k + 1 => by
  have ih0:=thwartref15_Live.mono_l k
  ·intro y0 y1 y2
   unfold thwartref15_Live.l0
   repeat' first
   | (with_reducible exact ih0 _ _ _)
   | (with_reducible exact LeO.refl _)
   | (with_reducible exact LeO.none _)
   | (with_reducible refine LeO.ite ?_ ?_)
   | (with_reducible refine LeO.bind ?_ (fun _ => ?_))
   | exact ih0 _ _ _
   | exact LeO.none _
   | refine LeO.ite ?_ ?_
   | refine LeO.bind ?_ (fun _ => ?_)
theorem thwartref15_Live.mono : ∀ a0 k,LeO (thwartref15_Live.f k a0) (thwartref15_Live.f (k + 1) a0):=by
 intro a0 k
 have ih0:=thwartref15_Live.mono_l k
 unfold thwartref15_Live.f
 repeat' first
   | (with_reducible exact ih0 _ _ _)
   | (with_reducible exact LeO.refl _)
   | (with_reducible exact LeO.none _)
   | (with_reducible refine LeO.ite ?_ ?_)
   | (with_reducible refine LeO.bind ?_ (fun _ => ?_))
   | exact ih0 _ _ _
   | exact LeO.none _
   | refine LeO.ite ?_ ?_
   | refine LeO.bind ?_ (fun _ => ?_)
set_option maxHeartbeats 8000000 in
set_option maxRecDepth 100000 in
theorem thwartref15_Live.calls (k : Nat) (A0 : Option Addr) (c0 : Nat) (l0 : List (List (S36))) (r : List (S36)) (w : World) (hr0 : Kd.C (Kd.slice 36 k36) w A0 l0.length l0) (hc0 : l0.length ≤ c0) (h : thwartref15_Live.f k l0 = some r) :
  Calls Try.prog 11 #[.slice A0 l0.length c0] w fun e w' => ∃ v0_ : Value,e = .returned (v0_) ∧ Kd.R k36 36 w' w.heap.size (fun _ => True) v0_ r ∧ Below w.heap.size w w' := by
 have hu36:=Try.underlying36
 have HR0:=Aside0.mk hr0
 have HC0:=Aside0.mk hc0
 clear hr0 hc0
 have HB:=Aside0.mk (Below.refl w.heap.size w)
 have H : ((thwartref15_Newest.f l0).bind fun t113 => (thwartref15_Live.l0 k ([] : List (S36)) t113 0)) = some r:=h
 clear h
 replace H:=Option.bind_eq_some_iff.mp H
 obtain ⟨t113,A20,H⟩:=H
 replace H : (thwartref15_Live.l0 k ([] : List (S36)) t113 0) = some r:=H
 have A2:=Aside0.mk A20
 clear A20
 have H' := Aside0.mk H
 clear H
 go_enter Try.func11,Try.ntmps11
 go_wp2_with (first | ((with_reducible refine gate_callee (f:=12) rfl ?_);refine goesL_ (some 7) rfl rfl Try.func12 (by kernel_rfl) rfl #[.slice A0 l0.length c0] rfl (by (try simp only [List.map_toArray,List.map_cons,List.map_nil]);first | done | rfl | (simp only [List.length_drop,List.length_take];rfl)) ?_;(with_reducible refine (thwartref15_Newest.calls _ _ l0 t113 _ ?side1 ?side2 A2.out).mono ?_);(case side1 => repeat (first | exact HR0.out | (with_reducible refine Kd.C_alloc ?_ _) | (with_reducible refine Kd.C_drewN ?_ _) | (with_reducible refine Kd.C_drew ?_)));(case side2 => exact HC0.out);rintro e w3 ⟨v114,rfl,ho0,hb⟩;refine ⟨_,rfl,?_⟩;have n0_:=Aside0.mk (Kd.R_lower ho0 (below_size (by repeat (first | (with_reducible first | exact HB.out | apply below_alloc | apply pw_below_drewN | apply below_drew1) | exact HB.out))));have n1_:=Aside0.mk (below_step (by repeat (first | (with_reducible first | exact HB.out | apply below_alloc | apply pw_below_drewN | apply below_drew1) | exact HB.out)) hb);clear HB;have HO115:=n0_;have HB:=n1_;clear n0_ n1_;(try clear hb);(try clear hb2);(try clear hk);(try clear hi);(try clear ho0)))
 go_loopg [3,5] k (fun kq v3 v5 w' => ∃ (x3_1 : List (S36)) (x5_1 : Int),v5 = .int .i64 x5_1 ∧ Aside0 (thwartref15_Live.l0 kq x3_1 t113 x5_1 = some r) ∧ Aside0 (kq ≤ k) ∧ Aside0 (Kd.R k36 36 w' w.heap.size (fun k_ => some k_ ≠ (v114 : Value).ownBlock) v3 x3_1) ∧ Aside0 (Kd.R k36 36 w' w.heap.size (fun k_ => some k_ ≠ (v3 : Value).ownBlock) v114 t113) ∧ Aside0 (Below w.heap.size w w'))
 case atStart => exact ⟨(([] : List (S36))),(0),(by first | rfl | (simp;done) | (simp [*];done)),H',⟨Nat.le_refl _⟩,⟨by first | exact Kd.R_nil _ _ _ _ _ | exact Kd.N_nil _ _ _ _ _ | exact Kd.V_nil _ _ _ _ _ | exact Kd.Q_nil _ _ _ _ _ | exact Kd.S_nil _ _ _ _ _⟩,⟨by (with_reducible repeat (first | apply Kd.R_alloc | apply Kd.R_drewN | apply Kd.R_drew));exact Kd.R_mono HO115.out (fun _ hk => (by simp [Value.ownBlock]))⟩,⟨by repeat (first | (with_reducible first | exact HB.out | apply below_alloc | apply pw_below_drewN | apply below_drew1) | exact HB.out)⟩⟩
 case round =>
  clear H'
  try clear c1
  try clear p2
  obtain ⟨x3_1,x5_1,rfl,HA,HK1,HO_3,HO_4,HB⟩:=hrel
  cases gk with
  | zero => exact absurd HA.out (by simp [thwartref15_Live.l0])
  | succ k1 =>
   have H:=HA.out
   clear HA
   simp only [thwartref15_Live.l0] at H
   by_cases c4 : x5_1 < (t113.length : Int)
   ·rw [if_pos c4] at H
    have c4b0 : decide (x5_1 < (t113.length : Int)) = true:=decide_eq_true c4
    clear c4
    by_cases c5 : 0 ≤ x5_1
    ·rw [if_pos c5] at H
     have c5b0 : decide (0 ≤ x5_1) = true:=decide_eq_true c5
     clear c5
     obtain ⟨bq6,hbq6⟩ : ∃ b_ : Bool,b_ = ((rd_T36 t113 x5_1).f3):=⟨_,rfl⟩
     replace H : (if (bq6 = true) then (thwartref15_Live.l0 k1 x3_1 t113 (wrap64 (x5_1 + 1))) else (if x3_1.length < 2932031007402 then (thwartref15_Live.l0 k1 (x3_1 ++ [(⟨(rd_T36 t113 x5_1).f0,(rd_T36 t113 x5_1).f1,(rd_T36 t113 x5_1).f2,bq6⟩ : S36)]) t113 (wrap64 (x5_1 + 1))) else (none))) = some r:=by rw [← hbq6] at H;exact H
     have Nbq6:=Aside0.mk hbq6
     (try rw [← Nbq6.out] at A2)
     clear hbq6
     by_cases c7 : (bq6 = true)
     ·subst c7
      have H1 : (thwartref15_Live.l0 k1 x3_1 t113 (wrap64 (x5_1 + 1))) = some r:=by rw [if_pos rfl] at H;exact H
      clear H
      have H:=H1
      clear H1
      have H' := Aside0.mk H
      clear H
      obtain ⟨Ao8,co8,eo8⟩:=Kd.R_slice HO_4.out
      subst eo8
      have p116 : 0 ≤ (x5_1 : Int):=of_decide_eq_true (by first | (with_reducible assumption) | assumption)
      have q116 : x5_1 < (t113.length : Int):=of_decide_eq_true (by first | (with_reducible assumption) | assumption)
      obtain ⟨ad116,e116,hx116_0,hx116_1,hx116_2,hx116_3⟩:=at_T36 (Kd.R_reads' HO_4.out).2.2 x5_1 p116 q116
      (try rw [← Nbq6.out] at hx116_3);(try rw [← Nbq6.out] at hw116_3)
      cases e116
      replace p116:=eq_true p116
      replace q116:=eq_true q116
      go_wp2
      go_roundg k1
      case measure => have:=HK1.out;omega
      case rel => exact ⟨(x3_1),(wrap64 (x5_1 + 1)),(by first | rfl | (simp;done) | (simp [*];done)),H',⟨by have:=HK1.out;omega⟩,⟨by (with_reducible repeat (first | apply Kd.R_alloc | apply Kd.R_drewN | apply Kd.R_drew));exact HO_3.out⟩,⟨by (with_reducible repeat (first | apply Kd.R_alloc | apply Kd.R_drewN | apply Kd.R_drew));exact HO_4.out⟩,⟨by repeat (first | (with_reducible first | exact HB.out | apply below_alloc | apply pw_below_drewN | apply below_drew1) | exact HB.out)⟩⟩
     ·replace c7:=Bool.eq_false_iff.mpr c7
      subst c7
      have H1 : (if x3_1.length < 2932031007402 then (thwartref15_Live.l0 k1 (x3_1 ++ [(⟨(rd_T36 t113 x5_1).f0,(rd_T36 t113 x5_1).f1,(rd_T36 t113 x5_1).f2,false⟩ : S36)]) t113 (wrap64 (x5_1 + 1))) else (none)) = some r:=by rw [if_neg (show ¬ (false = true) by decide)] at H;exact H
      clear H
      have H:=H1
      clear H1
      by_cases c9 : x3_1.length < 2932031007402
      ·rw [if_pos c9] at H
       have LMc9:=Aside0.mk c9
       clear c9
       obtain ⟨y118,hy118⟩ : ∃ y_ : List (S36),y_ = (x3_1 ++ [(⟨(rd_T36 t113 x5_1).f0,(rd_T36 t113 x5_1).f1,(rd_T36 t113 x5_1).f2,false⟩ : S36)]):=⟨_,rfl⟩
       replace H : (thwartref15_Live.l0 k1 y118 t113 (wrap64 (x5_1 + 1))) = some r:=by first | (rw [hy118];with_reducible exact H) | (have H2_:=(Option.bind_some _ _).symm.trans H;rw [hy118];with_reducible exact H2_) | (have H2_:=(Option.bind_some _ _).symm.trans H;with_reducible exact H2_) | with_reducible exact H | (rw [hy118];exact H) | exact H
       have Ny118:=Aside0.mk hy118
       clear hy118
       have H' := Aside0.mk H
       clear H
       obtain ⟨Ao10,co10,eo10⟩:=Kd.R_slice HO_4.out
       subst eo10
       have p116 : 0 ≤ (x5_1 : Int):=of_decide_eq_true (by first | (with_reducible assumption) | assumption)
       have q116 : x5_1 < (t113.length : Int):=of_decide_eq_true (by first | (with_reducible assumption) | assumption)
       obtain ⟨ad116,e116,hx116_0,hx116_1,hx116_2,hx116_3⟩:=at_T36 (Kd.R_reads' HO_4.out).2.2 x5_1 p116 q116
       (try rw [← Nbq6.out] at hx116_3);(try rw [← Nbq6.out] at hw116_3)
       cases e116
       replace p116:=eq_true p116
       replace q116:=eq_true q116
       have p117 : 0 ≤ (x5_1 : Int):=of_decide_eq_true (by first | (with_reducible assumption) | assumption)
       have q117 : x5_1 < (t113.length : Int):=of_decide_eq_true (by first | (with_reducible assumption) | assumption)
       obtain ⟨ad117,e117,hx117_0,hx117_1,hx117_2,hx117_3⟩:=at_T36 (Kd.R_reads' HO_4.out).2.2 x5_1 p117 q117
       (try rw [← Nbq6.out] at hx117_3);(try rw [← Nbq6.out] at hw117_3)
       obtain rfl : ad116 = ad117:=(by injection e117)
       replace p117:=eq_true p117
       replace q117:=eq_true q117
       go_wp2_with (first | ((with_reducible refine gate_builtin (b := .append) (xs := #[.tmp 20,.tmp 25]) rfl ?_);at_builtin;refine Kd.R_append k36 (w0:=w) w.heap.size rfl (.tmp 20) (.tmp 25) 22 36 (.agg #[(.int .u64 0),(.string ⟨#[]⟩),(.string ⟨#[]⟩),(.bool false)]) 48 rfl Try.underlying22 info36 rfl (by decide) (by omega) u3 x3_1 (⟨(rd_T36 t113 x5_1).f0,(rd_T36 t113 x5_1).f1,(rd_T36 t113 x5_1).f2,false⟩ : S36) [.int .u64 ((rd_T36 t113 x5_1).f0),.string ((rd_T36 t113 x5_1).f1),.string ((rd_T36 t113 x5_1).f2),.bool false] (fun k_ => some k_ ≠ (.slice (some ad116) t113.length co10 : Value).ownBlock) (fun _ => False) rfl rfl ?aP (fun _ hk => hk.elim) ?aF ?aO ?aB ?aS ?aL ?_;(case aP => exact k36_mkM _ _ _ (⟨(rd_T36 t113 x5_1).f0,(rd_T36 t113 x5_1).f1,(rd_T36 t113 x5_1).f2,false⟩ : S36));(case aB => exact (by repeat (first | (with_reducible first | exact HB.out | apply below_alloc | apply pw_below_drewN | apply below_drew1) | exact HB.out)));(case aF => exact (fun k_ hk => Kd.fresh' (Kd.R_lt (by (with_reducible repeat (first | apply Kd.R_alloc | apply Kd.R_drewN | apply Kd.R_drew));exact HO_4.out)) k_ hk));(case aO => exact (by (with_reducible repeat (first | apply Kd.R_alloc | apply Kd.R_drewN | apply Kd.R_drew));exact HO_3.out));(case aS => exact (below_size (by repeat (first | (with_reducible first | exact HB.out | apply below_alloc | apply pw_below_drewN | apply below_drew1) | exact HB.out))));(case aL => have:=LMc9.out;omega);intro v119 w11 ho hb hg hat;rw [← Ny118.out] at ho;have n0_:=Aside0.mk (Kd.R_after (ok:=(fun _ => True)) (by (with_reducible repeat (first | apply Kd.R_alloc | apply Kd.R_drewN | apply Kd.R_drew));exact Kd.R_mono HO_4.out (fun _ hk => ⟨trivial,hk⟩)) hg hat);have n1_:=Aside0.mk (hb);have n2_:=Aside0.mk (ho);clear HO_4;clear HB;clear HO_3;have HO_4:=n0_;have HB:=n1_;have HO120:=n2_;clear n0_ n1_ n2_;clear ho hb hg hat))
       go_roundg k1
       case measure => have:=HK1.out;omega
       case rel => exact ⟨(y118),(wrap64 (x5_1 + 1)),(by first | rfl | (simp;done) | (simp [*];done)),H',⟨by have:=HK1.out;omega⟩,⟨by (with_reducible repeat (first | apply Kd.R_alloc | apply Kd.R_drewN | apply Kd.R_drew));exact HO120.out⟩,⟨by (with_reducible repeat (first | apply Kd.R_alloc | apply Kd.R_drewN | apply Kd.R_drew));exact Kd.R_mono HO_4.out (fun _ hk => hk.2)⟩,⟨by repeat (first | (with_reducible first | exact HB.out | apply below_alloc | apply pw_below_drewN | apply below_drew1) | exact HB.out)⟩⟩
      ·rw [if_neg c9] at H
       exact absurd H (by simp)
    ·rw [if_neg c5] at H
     exact absurd H (by simp)
   ·rw [if_neg c4] at H
    have c4b0 : decide (x5_1 < (t113.length : Int)) = false:=decide_eq_false c4
    clear c4
    obtain rfl:=Option.some.inj H
    obtain ⟨Ao12,co12,eo12⟩:=Kd.R_slice HO_4.out
    subst eo12
    go_wp2
    go_ret
    exact ⟨_,by first | rfl | (simp [errW_none,errW_some] <;> rfl) | (simp [*,errW_none,errW_some] <;> rfl) | (simp [errW_none,errW_some];exact isEmpty_bne _),by (with_reducible repeat (first | apply Kd.R_alloc | apply Kd.R_drewN | apply Kd.R_drew));exact Kd.R_mono HO_3.out (fun _ hk => trivial),by repeat (first | (with_reducible first | exact HB.out | apply below_alloc | apply pw_below_drewN | apply below_drew1) | exact HB.out)⟩

/-! ### merge_Merge: function 15 -/
def merge_Merge.f (k : Nat) (a0 : Bool) (l1 : List (List (S36))) : Option ((List (S36))):=if a0 = true then ((merge_Newest.f k l1).bind fun t121 => (some t121)) else ((merge_Live.f k l1).bind fun t124 => (some t124))
theorem merge_Merge.mono : ∀ a0 a1 k,LeO (merge_Merge.f k a0 a1) (merge_Merge.f (k + 1) a0 a1):=by
 intro a0 a1 k
 unfold merge_Merge.f
 repeat' first
   | (with_reducible exact merge_Live.mono _ _)
   | (with_reducible exact merge_Newest.mono _ _)
   | (with_reducible exact LeO.refl _)
   | (with_reducible exact LeO.none _)
   | (with_reducible refine LeO.ite ?_ ?_)
   | (with_reducible refine LeO.bind ?_ (fun _ => ?_))
   | exact merge_Live.mono _ _
   | exact merge_Newest.mono _ _
   | exact LeO.none _
   | refine LeO.ite ?_ ?_
   | refine LeO.bind ?_ (fun _ => ?_)
set_option maxHeartbeats 8000000 in
set_option maxRecDepth 100000 in
theorem merge_Merge.calls (k : Nat) (a0 : Bool) (A1 : Option Addr) (c1 : Nat) (l1 : List (List (S36))) (r : List (S36)) (w : World) (hr1 : Kd.C (Kd.slice 36 k36) w A1 l1.length l1) (hc1 : l1.length ≤ c1) (h : merge_Merge.f k a0 l1 = some r) :
  Calls Try.prog 15 #[.bool a0,.slice A1 l1.length c1] w fun e w' => ∃ v0_ : Value,e = .returned (v0_) ∧ Kd.R k36 36 w' w.heap.size (fun _ => True) v0_ r ∧ Below w.heap.size w w' := by
 have HR1:=Aside0.mk hr1
 have HC1:=Aside0.mk hc1
 clear hr1 hc1
 have HB:=Aside0.mk (Below.refl w.heap.size w)
 have H : (if a0 = true then ((merge_Newest.f k l1).bind fun t121 => (some t121)) else ((merge_Live.f k l1).bind fun t124 => (some t124))) = some r:=h
 clear h
 by_cases c3 : a0 = true
 ·subst c3
  have H1 : ((merge_Newest.f k l1).bind fun t121 => (some t121)) = some r:=by rw [if_pos rfl] at H;exact H
  clear H
  have H:=H1
  clear H1
  replace H:=Option.bind_eq_some_iff.mp H
  obtain ⟨t121,A40,H⟩:=H
  replace H : (some t121) = some r:=H
  have A4:=Aside0.mk A40
  clear A40
  obtain rfl:=Option.some.inj H
  go_enter Try.func15,Try.ntmps15
  go_wp2_with (first | ((with_reducible refine gate_callee (f:=13) rfl ?_);refine goesL_ (some 7) rfl rfl Try.func13 (by kernel_rfl) rfl #[.slice A1 l1.length c1] rfl (by (try simp only [List.map_toArray,List.map_cons,List.map_nil]);first | done | rfl | (simp only [List.length_drop,List.length_take];rfl)) ?_;(with_reducible refine (merge_Newest.calls k _ _ l1 t121 _ ?side1 ?side2 A4.out).mono ?_);(case side1 => repeat (first | exact HR1.out | (with_reducible refine Kd.C_alloc ?_ _) | (with_reducible refine Kd.C_drewN ?_ _) | (with_reducible refine Kd.C_drew ?_)));(case side2 => exact HC1.out);rintro e w5 ⟨v122,rfl,ho0,hb⟩;refine ⟨_,rfl,?_⟩;have n0_:=Aside0.mk (Kd.R_lower ho0 (below_size (by repeat (first | (with_reducible first | exact HB.out | apply below_alloc | apply pw_below_drewN | apply below_drew1) | exact HB.out))));have n1_:=Aside0.mk (below_step (by repeat (first | (with_reducible first | exact HB.out | apply below_alloc | apply pw_below_drewN | apply below_drew1) | exact HB.out)) hb);clear HB;have HO123:=n0_;have HB:=n1_;clear n0_ n1_;(try clear hb);(try clear hb2);(try clear hk);(try clear hi);(try clear ho0)))
  go_ret
  exact ⟨_,by first | rfl | (simp [errW_none,errW_some] <;> rfl) | (simp [*,errW_none,errW_some] <;> rfl) | (simp [errW_none,errW_some];exact isEmpty_bne _),by (with_reducible repeat (first | apply Kd.R_alloc | apply Kd.R_drewN | apply Kd.R_drew));exact HO123.out,by repeat (first | (with_reducible first | exact HB.out | apply below_alloc | apply pw_below_drewN | apply below_drew1) | exact HB.out)⟩
 ·replace c3:=Bool.eq_false_iff.mpr c3
  subst c3
  have H1 : ((merge_Live.f k l1).bind fun t124 => (some t124)) = some r:=by rw [if_neg (show ¬ (false = true) by decide)] at H;exact H
  clear H
  have H:=H1
  clear H1
  replace H:=Option.bind_eq_some_iff.mp H
  obtain ⟨t124,A60,H⟩:=H
  replace H : (some t124) = some r:=H
  have A6:=Aside0.mk A60
  clear A60
  obtain rfl:=Option.some.inj H
  go_enter Try.func15,Try.ntmps15
  go_wp2_with (first | ((with_reducible refine gate_callee (f:=14) rfl ?_);refine goesL_ (some 9) rfl rfl Try.func14 (by kernel_rfl) rfl #[.slice A1 l1.length c1] rfl (by (try simp only [List.map_toArray,List.map_cons,List.map_nil]);first | done | rfl | (simp only [List.length_drop,List.length_take];rfl)) ?_;(with_reducible refine (merge_Live.calls k _ _ l1 t124 _ ?side1 ?side2 A6.out).mono ?_);(case side1 => repeat (first | exact HR1.out | (with_reducible refine Kd.C_alloc ?_ _) | (with_reducible refine Kd.C_drewN ?_ _) | (with_reducible refine Kd.C_drew ?_)));(case side2 => exact HC1.out);rintro e w7 ⟨v125,rfl,ho0,hb⟩;refine ⟨_,rfl,?_⟩;have n0_:=Aside0.mk (Kd.R_lower ho0 (below_size (by repeat (first | (with_reducible first | exact HB.out | apply below_alloc | apply pw_below_drewN | apply below_drew1) | exact HB.out))));have n1_:=Aside0.mk (below_step (by repeat (first | (with_reducible first | exact HB.out | apply below_alloc | apply pw_below_drewN | apply below_drew1) | exact HB.out)) hb);clear HB;have HO126:=n0_;have HB:=n1_;clear n0_ n1_;(try clear hb);(try clear hb2);(try clear hk);(try clear hi);(try clear ho0)))
  go_ret
  exact ⟨_,by first | rfl | (simp [errW_none,errW_some] <;> rfl) | (simp [*,errW_none,errW_some] <;> rfl) | (simp [errW_none,errW_some];exact isEmpty_bne _),by (with_reducible repeat (first | apply Kd.R_alloc | apply Kd.R_drewN | apply Kd.R_drew));exact HO126.out,by repeat (first | (with_reducible first | exact HB.out | apply below_alloc | apply pw_below_drewN | apply below_drew1) | exact HB.out)⟩

end Go.Proofs.Ytlfhnpecfkhcpaa.Print
