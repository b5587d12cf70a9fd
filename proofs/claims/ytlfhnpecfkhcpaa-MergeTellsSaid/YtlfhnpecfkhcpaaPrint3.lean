/- Written by a program of mine (give.py, over the kit's print) out of the translation: contracts of the Go functions. Lean checks it. -/
import Derived.Test.YtlfhnpecfkhcpaaPrint0
import Derived.Test.YtlfhnpecfkhcpaaPrint1
import Derived.Test.YtlfhnpecfkhcpaaPrint2
namespace Go.Proofs.Ytlfhnpecfkhcpaa.Print
open Go.RowKit Go.Proofs.YtlfhnpecfkhcpaaW.PrintWords Go.Proofs.YtlfhnpecfkhcpaaW.PrintLast Go.Proofs.YtlfhnpecfkhcpaaW.PrintMore
attribute [local go_sem] max2_int min2_int max_two min_two max_three min_three max_four min_four   -- for this text's walks alone
set_option linter.unusedVariables false
set_option linter.unusedSimpArgs false

attribute [local go_sem high] eqA36
/-! ### merge_Live: function 14 -/
def merge_Live.f (k : Nat) (l0 : List (List (S36))) : Option (List (S36)) := (merge_Newest.f k l0).bind fun l => some (l.filter fun x => !x.f3)
theorem merge_Live.mono : ∀ a0 k, LeO (merge_Live.f k a0) (merge_Live.f (k + 1) a0) := by
  intro a0 k
  unfold merge_Live.f
  repeat' first
      | (with_reducible exact merge_Newest.mono _ _)
      | (with_reducible exact LeO.refl _)
      | (with_reducible refine LeO.bind ?_ (fun _ => ?_))
set_option maxHeartbeats 3200000 in
theorem merge_Live.gone (x : S36) (W : World) : Calls Try.prog 26 #[.agg #[.int .u64 x.f0, .string x.f1, .string x.f2, .bool x.f3]] W fun e w' => e = .returned (.bool x.f3) ∧ Below W.heap.size W w' := by
  go_enter Try.func26, Try.ntmps26
  go_wp2_with fail
  go_ret
  exact ⟨rfl, (Below.refl _ _).alloc (Nat.le_refl _) _⟩
def merge_Live.first (xs : List (S36)) : Int := if xs.findIdx (fun x => x.f3) < xs.length then (xs.findIdx (fun x => x.f3) : Int) else -1
set_option maxHeartbeats 6400000 in
set_option maxRecDepth 100000 in
theorem merge_Live.index (A : Option Addr) (c : Nat) (xs : List (S36)) (w : World) (hc : Kd.C k36 w A xs.length xs) (hn : xs.length ≤ 1000000) :
    Calls Try.prog 32 #[.slice A xs.length c, .func (.func 26) #[] #[]] w fun e w' => e = .returned (.int .i64 (merge_Live.first xs)) ∧ Below w.heap.size w w' := by
  have HC := Aside0.mk hc
  clear hc
  go_enter Try.func32, Try.ntmps32
  go_wp2_with fail
  go_loopw [8] (fun v8 wr => ∃ i : Nat, i ≤ xs.length ∧ v8 = .int .i64 i ∧ Aside0 (i ≤ xs.findIdx (fun x => x.f3)) ∧ Aside0 (Below w.heap.size w wr)) (fun v8 _ => xs.length - (intOf v8).toNat)
  case atStart => exact ⟨0, by omega, rfl, ⟨Nat.zero_le _⟩, ⟨Below.refl _ _⟩⟩
  case round =>
    obtain ⟨i, hi, rfl, HI, HB⟩ := hrel
    by_cases hlt : i < xs.length
    · have d1 : decide ((i : Int) < (xs.length : Int)) = true := decide_eq_true (by omega)
      obtain ⟨ad, e, x0, x1, x2, x3⟩ := at_T36 (Kd.C_below HC.out HB.out) (i : Int) (by omega) (by omega)
      cases e
      have hx : rd_T36 xs (i : Int) = xs[i] := by
        unfold rd_T36
        rw [Int.toNat_natCast, List.getD_eq_getElem?_getD, List.getElem?_eq_getElem hlt]
        rfl
      rw [hx, Int.toNat_natCast] at x0 x1 x2 x3
      obtain ⟨x, hxe⟩ : ∃ x, xs[i] = x := ⟨_, rfl⟩
      rw [hxe] at x0 x1 x2 x3
      have HX := Aside0.mk hxe
      clear hx hxe
      have i0 : 0 ≤ (i : Int) := by omega
      have i1 : (i : Int) < (xs.length : Int) := by omega
      go_wp2_with fail
      refine (merge_Live.gone x _).mono ?_
      rintro e w2 ⟨rfl, b2⟩
      have B2 := Aside0.mk (HB.out.trans (b2.mono HB.out.size))
      clear b2 x0 x1 x2 x3
      cases hf : x.f3 with
      | true =>
        have hfi : xs.findIdx (fun x => x.f3) = i := by
          rw [List.findIdx_eq hlt]
          refine ⟨by rw [HX.out]; exact hf, fun j hj => ?_⟩
          have := List.not_of_lt_findIdx (p := fun x : S36 => x.f3) (xs := xs) (i := j) (by have := HI.out; omega)
          simpa using this
        have HR := Aside0.mk (show merge_Live.first xs = (i : Int) by unfold merge_Live.first; rw [hfi, if_pos hlt])
        clear hfi hf
        go_wp2_with fail
        go_ret
        rw [HR.out]
        exact ⟨rfl, B2.out⟩
      | false =>
        have HI2 := Aside0.mk (show i + 1 ≤ xs.findIdx (fun x => x.f3) by
          rcases Nat.lt_or_ge i (xs.findIdx (fun x => x.f3)) with h | h
          · omega
          · have he : xs.findIdx (fun x => x.f3) = i := by have := HI.out; omega
            have := List.findIdx_getElem (p := fun x : S36 => x.f3) (xs := xs) (w := by omega)
            simp only [he] at this
            rw [HX.out, hf] at this
            cases this)
        clear hf
        go_wp2_with fail
        go_roundw
        case rel => exact ⟨i + 1, by omega, by go_num, HI2, B2⟩
        case measure => simp [intOf]; omega
    · have d1 : decide ((i : Int) < (xs.length : Int)) = false := decide_eq_false (by omega)
      have HR := Aside0.mk (show merge_Live.first xs = -1 by unfold merge_Live.first; rw [if_neg (by have := HI.out; omega)])
      go_wp2_with fail
      go_ret
      rw [HR.out]
      exact ⟨rfl, HB.out⟩
theorem merge_Live.hE (w : World) (b : Nat) (ok : Nat → Prop) (x : S36) (cs : List Value) (h : k36.M w b ok x cs) : cs = [.int .u64 x.f0, .string x.f1, .string x.f2, .bool x.f3] := k36_openM h
theorem merge_Live.frozen {w : World} {base g n c : Nat} {ok : Nat → Prop} {ys : List (S36)} (h : Kd.R k36 36 w base ok (.slice (some ⟨g, 0, none⟩) n c) ys) (o : Nat) : w.frozen? ⟨g, o, none⟩ = false := by
  obtain ⟨inner, hown⟩ := Kd.R_own h
  obtain ⟨cells, hc⟩ := own_typed hown g rfl
  simp [World.frozen?, hc]
theorem merge_Live.wrap {n : Nat} (h : n < 1000000000) : wrap64 ((n : Int) + 1) = ((n + 1 : Nat) : Int) := by unfold wrap64; omega
theorem merge_Live.at_ {w : World} {base g n c : Nat} {ok : Nat → Prop} {ys : List (S36)} (h : Kd.R k36 36 w base ok (.slice (some ⟨g, 0, none⟩) n c) ys) (j : Nat) (x : S36) (hx : ys[j]? = some x) :
    w.cell? ⟨g, j * 4, none⟩ = some (.int .u64 x.f0) ∧ w.cell? ⟨g, j * 4 + 1, none⟩ = some (.string x.f1) ∧ w.cell? ⟨g, j * 4 + 2, none⟩ = some (.string x.f2) ∧ w.cell? ⟨g, j * 4 + 3, none⟩ = some (.bool x.f3) := by
  have hj := (List.getElem?_eq_some_iff.1 hx).1
  obtain ⟨_, _, hC⟩ := Kd.R_reads' h
  obtain ⟨ad, e, x0, x1, x2, x3⟩ := at_T36 hC (j : Int) (by omega) (by omega)
  cases e
  have e1 : rd_T36 ys (j : Int) = x := by
    unfold rd_T36
    rw [Int.toNat_natCast, List.getD_eq_getElem?_getD, hx]
    rfl
  rw [e1, Int.toNat_natCast] at x0 x1 x2 x3
  have e2 : (⟨g, 0, none⟩ : Addr).add (j * 4) = ⟨g, j * 4, none⟩ := by
    have : (⟨g, 0, none⟩ : Addr).add (j * 4) = ⟨g, 0 + j * 4, none⟩ := by unfold Addr.add; split <;> simp_all
    rwa [Nat.zero_add] at this
  rw [e2] at x0 x1 x2 x3
  exact ⟨x0, x1, x2, x3⟩
theorem merge_Live.some_ {w : World} {base g n c : Nat} {ok : Nat → Prop} {ys : List (S36)} (h : Kd.R k36 36 w base ok (.slice (some ⟨g, 0, none⟩) n c) ys) (o : Nat) (ho : o < ys.length * 4) : (w.cell? ⟨g, o, none⟩).isSome = true := by
  obtain ⟨inner, hl, hown⟩ := Kd.R_own h
  rcases hown with ⟨hv, _⟩ | ⟨g', cap, cur, hv, hb, hg, hc1, hc2, hcs, htk⟩
  · cases hv
  · injection hv with hv1 hv2 hv3
    injection hv1 with hv1
    injection hv1 with hv1
    subst hv1
    have hsz : k36.sz = 4 := rfl
    rw [hsz] at hcs
    have : ys.length * 4 ≤ cap * 4 := Nat.mul_le_mul_right 4 hc1
    have ho2 : o < cur.size := by omega
    simp [World.cell?, hg, Array.getElem?_eq_getElem ho2]
theorem merge_Live.clear_ {w : World} {base g n c : Nat} {ok : Nat → Prop} {ys : List (S36)} (h : Kd.R k36 36 w base ok (.slice (some ⟨g, 0, none⟩) n c) ys) (i : Nat) (hi : i < ys.length) (c' ty : Nat) :
    (Builtin.clear_ #[22] ty #[.slice (some ⟨g, i * 4, none⟩) (ys.length - i) c']).run Try.prog w = .ok (.tuple #[]) (w.setCells g (i * 4) (Builtin.zeroCells (Value.agg #[.int .u64 0, .string ⟨#[]⟩, .string ⟨#[]⟩, .bool false]).cells (ys.length - i)).toList) := by
  have hsz : (Value.agg #[.int .u64 0, .string ⟨#[]⟩, .string ⟨#[]⟩, .bool false]).cells.size = 4 := rfl
  refine Thw.run_clear_row w 22 36 ty _ Try.underlying22 (fun w => merge_Newest.zero w) ?_ g (i * 4) (ys.length - i) c' (by omega) (fun j hj => ?_) (fun j hj => merge_Live.frozen h _)
  · intro u hu
    have : u = .int .u64 0 ∨ u = .string ⟨#[]⟩ ∨ u = .string ⟨#[]⟩ ∨ u = .bool false := by simpa [Value.cells] using hu
    rcases this with rfl | rfl | rfl | rfl <;> rfl
  · rw [hsz] at hj
    exact merge_Live.some_ h _ (by omega)
set_option maxHeartbeats 12800000 in
set_option maxRecDepth 100000 in
theorem merge_Live.delete (A : Option Addr) (c : Nat) (xs : List (S36)) (base : Nat) (w : World) (hR : Kd.R k36 36 w base (fun _ => True) (.slice A xs.length c) xs) (hn : xs.length ≤ 1000000) (hbase : base ≤ w.heap.size) :
    Calls Try.prog 25 #[.slice A xs.length c, .func (.func 26) #[] #[]] w fun e w' => ∃ v, e = .returned v ∧ Kd.R k36 36 w' base (fun _ => True) v (xs.filter fun x => !x.f3) ∧ Below base w w' := by
  have HR := Aside0.mk hR
  have HBA := Aside0.mk hbase
  have HIX := Aside0.mk (merge_Live.index A c xs w (Kd.R_reads' hR).2.2 hn)
  clear hR hbase
  go_enter Try.func25, Try.ntmps25
  go_wp2_with fail
  refine HIX.out.mono ?_
  rintro e w1 ⟨rfl, b1⟩
  have R1 := Aside0.mk (Kd.R_below HR.out b1)
  have B1 := Aside0.mk (b1.mono HBA.out)
  clear b1
  by_cases hf : xs.findIdx (fun x => x.f3) < xs.length
  case neg =>
    have e1 : merge_Live.first xs = -1 := by unfold merge_Live.first; rw [if_neg hf]
    have HF := Aside0.mk (show xs.filter (fun x => !x.f3) = xs by
      rw [List.filter_eq_self]
      intro x hx
      have h1 : xs.findIdx (fun x => x.f3) = xs.length := by have := List.findIdx_le_length (p := fun x : S36 => x.f3) (xs := xs); omega
      have := List.findIdx_eq_length.1 h1 x hx
      simpa using this)
    rw [e1]
    clear e1 hf
    go_wp2_with fail
    go_ret
    rw [HF.out]
    exact ⟨_, rfl, R1.out, B1.out⟩
  obtain ⟨i0, hi0⟩ : ∃ i0, xs.findIdx (fun x => x.f3) = i0 := ⟨_, rfl⟩
  have e1 : merge_Live.first xs = (i0 : Int) := by unfold merge_Live.first; rw [if_pos hf, hi0]
  rw [e1]
  rw [hi0] at hf
  have HF := Aside0.mk (show xs.take i0 = (xs.take (i0 + 1)).filter (fun x => !x.f3) by
    rw [List.take_succ_eq_append_getElem hf, List.filter_append]
    have h1 : xs[i0].f3 = true := by
      have := List.findIdx_getElem (p := fun x : S36 => x.f3) (xs := xs) (w := by omega)
      simpa only [hi0] using this
    have h2 : (xs.take i0).filter (fun x => !x.f3) = xs.take i0 := by
      rw [List.filter_eq_self]
      intro x hx
      obtain ⟨j, hj, rfl⟩ := List.getElem_of_mem hx
      rw [List.length_take] at hj
      have := List.not_of_lt_findIdx (p := fun x : S36 => x.f3) (xs := xs) (i := j) (by omega)
      rw [List.getElem_take]
      simpa using this
    rw [h2]
    simp [h1])
  have hm1 : ((i0 : Int) == -1) = false := beq_eq_false_iff_ne.mpr (by omega)
  have HLT := Aside0.mk hf
  clear e1 hi0 hf
  cases A with
  | none =>
    exfalso
    have h1 := (Kd.R_reads' R1.out).2.2
    obtain ⟨ad, e, _⟩ := at_T36 h1 0 (by omega) (by have := HLT.out; omega)
    cases e
  | some ad =>
    have hz : ad = ⟨ad.block, 0, none⟩ := by
      obtain ⟨inner, h1, h2⟩ := Kd.R_own R1.out
      rcases h2 with ⟨h3, _⟩ | ⟨g, cap, cur, h3, _⟩
      · cases h3
      · injection h3 with h4
        injection h4 with h4
        rw [h4]
    obtain ⟨g, hg⟩ : ∃ g, ad.block = g := ⟨_, rfl⟩
    rw [hg] at hz
    subst hz
    clear hg
    go_wp2_with fail
    go_loopw [5, 6] (fun v5 v6 wr => ∃ (i j : Nat) (ys : List (S36)), v5 = .int .i64 i ∧ v6 = .int .i64 j ∧ Aside0 (i < j ∧ j ≤ xs.length ∧ ys.length = xs.length ∧ ys.take i = (xs.take j).filter (fun x => !x.f3) ∧ ys.drop j = xs.drop j) ∧ Aside0 (Kd.R k36 36 wr base (fun _ => True) (.slice (some ⟨g, 0, none⟩) xs.length c) ys) ∧ Aside0 (Below base w wr)) (fun _ v6 _ => xs.length - (intOf v6).toNat)
    case atStart =>
      have hb0 := HLT.out
      exact ⟨i0, i0 + 1, xs, rfl, by rw [merge_Live.wrap (by omega)], ⟨by omega, by have := HLT.out; omega, rfl, HF.out, rfl⟩, R1, B1⟩
    case round =>
      obtain ⟨i, j, ys, rfl, rfl, HJ, HR2, HB⟩ := hrel
      by_cases hlt : j < xs.length
      · have d1 : decide ((j : Int) < (xs.length : Int)) = true := decide_eq_true (by omega)
        obtain ⟨hij, hjn, hyl, htk, hdr⟩ := HJ.out
        obtain ⟨x, hxe⟩ : ∃ x, xs[j] = x := ⟨_, rfl⟩
        have hy : ys[j]? = some x := by
          have h1 := congrArg (fun l => l[0]?) hdr
          simp only [List.getElem?_drop, Nat.add_zero] at h1
          rw [h1, List.getElem?_eq_getElem hlt, hxe]
        obtain ⟨x0, x1, x2, x3⟩ := merge_Live.at_ HR2.out j x hy
        have HX := Aside0.mk hxe
        have HTS := Aside0.mk (show (xs.take (j + 1)).filter (fun x => !x.f3) = (xs.take j).filter (fun x => !x.f3) ++ (if x.f3 then [] else [x]) by
          rw [List.take_succ_eq_append_getElem hlt, List.filter_append, hxe]
          cases hb : x.f3 <;> simp [hb])
        have i0' : 0 ≤ (j : Int) := by omega
        have i1' : (j : Int) < (xs.length : Int) := by omega
        clear hxe hy hij hjn hyl htk hdr
        go_upto_region 8 with (fail)
        have X2 := Aside0.mk (blk_new wr (.cells #[.int .u64 x.f0, .string x.f1, .string x.f2, .bool x.f3] 36))
        have R2 := Aside0.mk (Kd.R_alloc HR2.out (.cells #[.int .u64 x.f0, .string x.f1, .string x.f2, .bool x.f3] 36))
        have B2 := Aside0.mk (HB.out.alloc (Nat.le_trans HBA.out HB.out.size) (.cells #[.int .u64 x.f0, .string x.f1, .string x.f2, .bool x.f3] 36))
        obtain ⟨b7, hb7⟩ : ∃ b7, wr.heap.size = b7 := ⟨_, rfl⟩
        rw [hb7] at X2 ⊢
        generalize wr.alloc (.cells #[.int .u64 x.f0, .string x.f1, .string x.f2, .bool x.f3] 36) = w2 at X2 R2 B2 ⊢
        clear hb7 x0 x1 x2 x3 HR2 HB
        obtain ⟨c0', c1', c2', c3', cf'⟩ := Thw.cells4 X2.out
        go_wp2_with fail
        refine (merge_Live.gone x _).mono ?_
        rintro e w3 ⟨rfl, b3⟩
        have X3 := Aside0.mk ((b3.block _ (blk_lt X2.out)).trans X2.out)
        have R3 := Aside0.mk (Kd.R_below R2.out b3)
        have B3 := Aside0.mk (B2.out.trans (b3.mono (Nat.le_trans HBA.out B2.out.size)))
        clear b3 c0' c1' c2' c3' cf' X2 R2 B2
        cases hf : x.f3 with
        | true =>
          rw [hf] at HTS
          clear hf
          go_wp2_with fail
          go_roundw
          case rel =>
            obtain ⟨hij, hjn, hyl, htk, hdr⟩ := HJ.out
            refine ⟨i, j + 1, ys, rfl, by go_num, ⟨by omega, by omega, hyl, by rw [HTS.out, htk]; simp, ?_⟩, R3, B3⟩
            rw [← List.drop_drop, ← List.drop_drop, hdr]
          case measure => simp [intOf]; omega
        | false =>
          rw [hf] at HTS
          have hil : i < ys.length := by obtain ⟨hij, hjn, hyl, htk, hdr⟩ := HJ.out; omega
          obtain ⟨y, hye⟩ : ∃ y, ys[i]? = some y := ⟨_, List.getElem?_eq_getElem hil⟩
          obtain ⟨y0, y1, y2, y3⟩ := merge_Live.at_ R3.out i y hye
          have f0 := merge_Live.frozen R3.out (i * 4)
          have f1 := merge_Live.frozen R3.out (i * 4 + 1)
          have f2 := merge_Live.frozen R3.out (i * 4 + 2)
          have f3 := merge_Live.frozen R3.out (i * 4 + 3)
          obtain ⟨c0', c1', c2', c3', cf'⟩ := Thw.cells4 X3.out
          have i0'' : 0 ≤ (i : Int) := by omega
          have i1'' : (i : Int) < (xs.length : Int) := by obtain ⟨hij, hjn, hyl, htk, hdr⟩ := HJ.out; omega
          have HIL := Aside0.mk hil
          clear hil hye
          rw [hf] at c3'
          have HFX := Aside0.mk hf
          clear hf
          go_upto_region 10 with (fail)
          have R4 := Aside0.mk (show Kd.R k36 36 ((((w3.setCell ⟨g, i * 4, none⟩ (.int .u64 x.f0)).setCell ⟨g, i * 4 + 1, none⟩ (.string x.f1)).setCell ⟨g, i * 4 + 2, none⟩ (.string x.f2)).setCell ⟨g, i * 4 + 3, none⟩ (.bool false)) base (fun _ => True) (.slice (some ⟨g, 0, none⟩) xs.length c) (ys.set i x) by
            have h := Thw.R_setK (enc := fun x : S36 => [.int .u64 x.f0, .string x.f1, .string x.f2, .bool x.f3]) merge_Live.hE (fun w b o x => k36_mkM w b o x) (fun _ => rfl) R3.out i HIL.out x
            simp only [HFX.out] at h
            exact h)
          have HGB := Aside0.mk (own_base (Kd.R_own R3.out).choose_spec g rfl)
          have B4 := Aside0.mk ((((B3.out.setCell (p := ⟨g, i * 4, none⟩) HGB.out (.int .u64 x.f0)).setCell (p := ⟨g, i * 4 + 1, none⟩) HGB.out (.string x.f1)).setCell (p := ⟨g, i * 4 + 2, none⟩) HGB.out (.string x.f2)).setCell (p := ⟨g, i * 4 + 3, none⟩) HGB.out (.bool false))
          generalize (((w3.setCell ⟨g, i * 4, none⟩ (.int .u64 x.f0)).setCell ⟨g, i * 4 + 1, none⟩ (.string x.f1)).setCell ⟨g, i * 4 + 2, none⟩ (.string x.f2)).setCell ⟨g, i * 4 + 3, none⟩ (.bool false) = w4 at R4 B4 ⊢
          clear y0 y1 y2 y3 f0 f1 f2 f3 c0' c1' c2' c3' cf'
          go_wp2_with fail
          go_roundw
          case rel =>
            obtain ⟨hij, hjn, hyl, htk, hdr⟩ := HJ.out
            refine ⟨i + 1, j + 1, ys.set i x, by go_num, by go_num, ⟨by omega, by omega, by rw [List.length_set]; exact hyl, ?_, ?_⟩, R4, B4⟩
            · rw [HTS.out, ← htk, List.take_succ_eq_append_getElem (by rw [List.length_set]; exact HIL.out), List.getElem_set_self, List.take_set_of_le (Nat.le_refl _)]
              rfl
            · rw [List.drop_set_of_lt (by omega), ← List.drop_drop, ← List.drop_drop, hdr]
          case measure => simp [intOf]; omega
      · have d1 : decide ((j : Int) < (xs.length : Int)) = false := decide_eq_false (by omega)
        have i0' : 0 ≤ (i : Int) := by omega
        have i1' : (i : Int) < (xs.length : Int) := by obtain ⟨hij, hjn, hyl, htk, hdr⟩ := HJ.out; omega
        obtain ⟨hij, hjn, hyl, htk, hdr⟩ := HJ.out
        have hcl := fun c' ty => merge_Live.clear_ HR2.out i (by omega) c' ty
        rw [hyl] at hcl
        have HXL := Aside0.mk (Kd.R_reads' HR2.out).2.1
        have hxc : xs.length ≤ c := HXL.out
        have RF := Aside0.mk (Thw.R_frontK (enc := fun x : S36 => [.int .u64 x.f0, .string x.f1, .string x.f2, .bool x.f3]) merge_Live.hE (fun w b o x => k36_mkM w b o x) (fun _ => rfl) HR2.out i (by omega) (Builtin.zeroCells (Value.agg #[.int .u64 0, .string ⟨#[]⟩, .string ⟨#[]⟩, .bool false]).cells (xs.length - i)).toList)
        have HGB := Aside0.mk (own_base (Kd.R_own HR2.out).choose_spec g rfl)
        have BF := Aside0.mk (HB.out.trans (Thw.Frm.below (B := base) (Thw.setCells_frm (Builtin.zeroCells (Value.agg #[.int .u64 0, .string ⟨#[]⟩, .string ⟨#[]⟩, .bool false]).cells (xs.length - i)).toList wr g (i * 4)) (Nat.le_trans HBA.out HB.out.size) (fun t _ e => by rw [e]; exact HGB.out)))
        have HE := Aside0.mk (show ys.take i = xs.filter (fun x => !x.f3) by rw [htk]; congr 1; exact List.take_of_length_le (by omega))
        generalize hL : (Builtin.zeroCells (Value.agg #[.int .u64 0, .string ⟨#[]⟩, .string ⟨#[]⟩, .bool false]).cells (xs.length - i)).toList = L at hcl RF BF
        clear hL hij hjn hyl htk hdr
        go_upto_region 12 with (fail)
        have RG := Aside0.mk (show Kd.R k36 36 (wr.setCells g (i * 4) L) base (fun _ => True) (.slice (some ⟨g, 0, none⟩) i c) (ys.take i) from RF.out)
        generalize wr.setCells g (i * 4) L = wf at RG BF ⊢
        clear hcl RF
        go_wp2_with fail
        go_ret
        rw [← HE.out]
        exact ⟨_, rfl, RG.out, BF.out⟩
set_option maxHeartbeats 6400000 in
set_option maxRecDepth 100000 in
theorem merge_Live.calls (k : Nat) (A0 : Option Addr) (c0 : Nat) (l0 : List (List (S36))) (r : List (S36)) (w : World) (hr0 : Kd.C (Kd.slice 36 k36) w A0 l0.length l0) (hc0 : l0.length ≤ c0) (h : merge_Live.f k l0 = some r) :
    Calls Try.prog 14 #[.slice A0 l0.length c0] w fun e w' => ∃ v0_ : Value, e = .returned v0_ ∧ Kd.R k36 36 w' w.heap.size (fun _ => True) v0_ r ∧ Below w.heap.size w w' := by
  unfold merge_Live.f at h
  replace h := Option.bind_eq_some_iff.mp h
  obtain ⟨l, HL, h⟩ := h
  cases h
  have HL := Aside0.mk HL
  have HC := Aside0.mk hr0
  have HLEN := Aside0.mk (merge_Newest.small k l0 l HL.out)
  clear hr0
  go_enter Try.func14, Try.ntmps14
  go_wp2_with fail
  refine (merge_Newest.calls k A0 c0 l0 l _ HC.out hc0 HL.out).mono ?_
  rintro e w1 ⟨v, rfl, hR, hB⟩
  obtain ⟨A1, c1, rfl⟩ := Kd.R_slice hR
  have R1 := Aside0.mk hR
  have B1 := Aside0.mk hB
  clear hR hB
  go_wp2_with fail
  refine (merge_Live.delete A1 c1 l w.heap.size w1 R1.out HLEN.out B1.out.size).mono ?_
  rintro e w2 ⟨v2, rfl, hR2, hB2⟩
  have R2 := Aside0.mk hR2
  have B2 := Aside0.mk (B1.out.trans hB2)
  clear hR2 hB2
  go_wp2_with fail
  go_ret
  exact ⟨_, rfl, R2.out, B2.out⟩

/-! ### thwartlaw15_awake: function 7 -/
def thwartlaw15_awake.a : S36 := ⟨1, ⟨#[97]⟩, ⟨#[120]⟩, false⟩
def thwartlaw15_awake.b : S36 := ⟨3, ⟨#[97]⟩, ⟨#[]⟩, true⟩
def thwartlaw15_awake.c : S36 := ⟨2, ⟨#[98]⟩, ⟨#[121]⟩, false⟩
def thwartlaw15_awake.T (x : S36) : Int × List UInt8 × List UInt8 × Bool := (x.f0, x.f1.data.toList, x.f2.data.toList, x.f3)
def thwartlaw15_awake.f (k : Nat) : Option Bool :=
  (merge_Newest.f k [[thwartlaw15_awake.a, thwartlaw15_awake.b, thwartlaw15_awake.c]]).bind fun n => (merge_Live.f k [[thwartlaw15_awake.a], [thwartlaw15_awake.b, thwartlaw15_awake.c]]).bind fun v => (merge_Batches.f [thwartlaw15_awake.a, thwartlaw15_awake.b, thwartlaw15_awake.c]).bind fun bs =>
    if n.map thwartlaw15_awake.T = [thwartlaw15_awake.T thwartlaw15_awake.b, thwartlaw15_awake.T thwartlaw15_awake.c] ∧ v.map thwartlaw15_awake.T = [thwartlaw15_awake.T thwartlaw15_awake.c] ∧ bs.length = 1 then some true else none
theorem thwartlaw15_awake.mono : ∀ k, LeO (thwartlaw15_awake.f k) (thwartlaw15_awake.f (k + 1)) := by
  intro k
  unfold thwartlaw15_awake.f
  repeat' first
      | (with_reducible exact merge_Newest.mono _ _)
      | (with_reducible exact merge_Live.mono _ _)
      | (with_reducible exact LeO.refl _)
      | (with_reducible refine LeO.ite ?_ ?_)
      | (with_reducible refine LeO.bind ?_ (fun _ => ?_))
theorem thwartlaw15_awake.T_inj : ∀ (n m : List (S36)), n.map thwartlaw15_awake.T = m.map thwartlaw15_awake.T → n = m
  | [], [], _ => rfl
  | [], _ :: _, h => by simp at h
  | _ :: _, [], h => by simp at h
  | x :: n, y :: m, h => by
    simp only [List.map_cons, List.cons.injEq] at h
    obtain ⟨h1, h2⟩ := h
    rw [thwartlaw15_awake.T_inj n m h2]
    obtain ⟨x0, x1, x2, x3⟩ := x
    obtain ⟨y0, y1, y2, y3⟩ := y
    simp only [thwartlaw15_awake.T, Prod.mk.injEq] at h1
    obtain ⟨rfl, e1, e2, rfl⟩ := h1
    rw [Thw.ba_ext e1, Thw.ba_ext e2]
theorem thwartlaw15_awake.eqb (d : Nat) (w : World) : (Op.equalIn (d + 2) 36 (.agg #[.int .u64 3, .string ⟨#[97]⟩, .string ⟨#[]⟩, .bool true]) (.agg #[.int .u64 3, .string ⟨#[97]⟩, .string ⟨#[]⟩, .bool true])).run Try.prog w = .ok true w := by
  refine eqA_of Try.underlying36 (by kernel_rfl) ?_
  refine eqf_cons (r := true) (s := true) (by rfl) (by go_simp; rfl) (by go_simp; rfl) (by go_simp) ?_
  refine eqf_cons (r := true) (s := true) (by rfl) (by go_simp; rfl) (by go_simp; rfl) (by go_simp) ?_
  refine eqf_cons (r := true) (s := true) (by rfl) (by go_simp; rfl) (by go_simp; rfl) (by go_simp) ?_
  exact eqf_last (by rfl) (by go_simp; rfl) (by go_simp; rfl) (by go_simp)
theorem thwartlaw15_awake.eqc (d : Nat) (w : World) : (Op.equalIn (d + 2) 36 (.agg #[.int .u64 2, .string ⟨#[98]⟩, .string ⟨#[121]⟩, .bool false]) (.agg #[.int .u64 2, .string ⟨#[98]⟩, .string ⟨#[121]⟩, .bool false])).run Try.prog w = .ok true w := by
  refine eqA_of Try.underlying36 (by kernel_rfl) ?_
  refine eqf_cons (r := true) (s := true) (by rfl) (by go_simp; rfl) (by go_simp; rfl) (by go_simp) ?_
  refine eqf_cons (r := true) (s := true) (by rfl) (by go_simp; rfl) (by go_simp; rfl) (by go_simp) ?_
  refine eqf_cons (r := true) (s := true) (by rfl) (by go_simp; rfl) (by go_simp; rfl) (by go_simp) ?_
  exact eqf_last (by rfl) (by go_simp; rfl) (by go_simp; rfl) (by go_simp)
theorem thwartlaw15_awake.base_ {w : World} {base n c : Nat} {ok : Nat → Prop} {A : Option Addr} {x : S36} {ys : List (S36)} (h : Kd.R k36 36 w base ok (.slice A n c) (x :: ys)) : ∃ g, A = some ⟨g, 0, none⟩ := by
  obtain ⟨inner, h1, h2⟩ := Kd.R_own h
  rcases h2 with ⟨_, h3⟩ | ⟨g, cap, cur, h3, _⟩
  · simp at h3
  · injection h3 with h4
    exact ⟨g, h4⟩
abbrev thwartlaw15_awake.cs : List Value := [.int .u64 1, .string ⟨#[97]⟩, .string ⟨#[120]⟩, .bool false, .int .u64 3, .string ⟨#[97]⟩, .string ⟨#[]⟩, .bool true, .int .u64 2, .string ⟨#[98]⟩, .string ⟨#[121]⟩, .bool false]
theorem thwartlaw15_awake.lit3 (W : World) (base : Nat) (hb : base ≤ W.heap.size) : Kd.R k36 36 (W.alloc (.cells thwartlaw15_awake.cs.toArray 36)) base (fun _ => True) (.slice (some ⟨W.heap.size, 0, none⟩) 3 3) [thwartlaw15_awake.a, thwartlaw15_awake.b, thwartlaw15_awake.c] :=
  ⟨fun _ _ => trivial, thwartlaw15_awake.cs, ⟨rfl, .inr ⟨W.heap.size, 3, _, rfl, hb, blk_new W _, Nat.le_refl _, by decide, rfl, rfl⟩⟩, rfl, fun j p hp => by
    match j, hp with
    | 0, hp => cases hp; exact k36_mkM _ _ _ thwartlaw15_awake.a
    | 1, hp => cases hp; exact k36_mkM _ _ _ thwartlaw15_awake.b
    | 2, hp => cases hp; exact k36_mkM _ _ _ thwartlaw15_awake.c
    | n + 3, hp => simp at hp⟩
theorem thwartlaw15_awake.lit1 (W : World) (base : Nat) (hb : base ≤ W.heap.size) (v : Value) (xs : List (S36)) (h : Kd.R k36 36 W base (fun _ => True) v xs) :
    Kd.R (Kd.slice 36 k36) 22 (W.alloc (.cells #[v] 22)) base (fun _ => True) (.slice (some ⟨W.heap.size, 0, none⟩) 1 1) [xs] :=
  ⟨fun _ _ => trivial, [v], ⟨rfl, .inr ⟨W.heap.size, 1, _, rfl, hb, blk_new W _, Nat.le_refl _, by decide, rfl, rfl⟩⟩, rfl, fun j p hp => by
    match j, hp with
    | 0, hp =>
      cases hp
      refine ⟨v, rfl, Kd.R_alloc (Kd.R_mono (Kd.R_bound h) (fun k hk => ⟨trivial, fun e => ?_⟩)) _⟩
      have h1 : k = W.heap.size := by simpa [Value.ownBlock] using e
      have := hk.2.2.1
      omega
    | n + 1, hp => simp at hp⟩
set_option maxHeartbeats 6400000 in
set_option maxRecDepth 100000 in
theorem thwartlaw15_awake.calls (k : Nat) (r : Bool) (w : World) (h : thwartlaw15_awake.f k = some r) :
    Calls Try.prog 7 #[] w fun e w' => e = .returned (.bool r) ∧ Below w.heap.size w w' := by
  unfold thwartlaw15_awake.f at h
  replace h := Option.bind_eq_some_iff.mp h
  obtain ⟨n, HN, h⟩ := h
  replace h := Option.bind_eq_some_iff.mp h
  obtain ⟨v, HV, h⟩ := h
  replace h := Option.bind_eq_some_iff.mp h
  obtain ⟨bs, HBS, h⟩ := h
  split at h
  case isFalse => cases h
  rename_i hall
  cases h
  have HN := Aside0.mk HN
  have HV := Aside0.mk HV
  have HBS := Aside0.mk HBS
  have HALL := Aside0.mk hall
  clear hall
  go_enter Try.func7, Try.ntmps7
  go_wp2_with fail
  have R1 := Aside0.mk (thwartlaw15_awake.lit3 w w.heap.size (Nat.le_refl _))
  have R2 := Aside0.mk (thwartlaw15_awake.lit1 _ w.heap.size (by simp) _ _ R1.out)
  have B2 := Aside0.mk (((Below.refl w.heap.size w).alloc (Nat.le_refl _) (.cells thwartlaw15_awake.cs.toArray 36)).alloc (by simp) (.cells #[.slice (some ⟨w.heap.size, 0, none⟩) 3 3] 22))
  have hz : (w.alloc (.cells thwartlaw15_awake.cs.toArray 36)).heap.size = w.heap.size + 1 := by simp
  rw [hz] at R2
  clear hz
  refine (merge_Newest.calls k _ 1 [[thwartlaw15_awake.a, thwartlaw15_awake.b, thwartlaw15_awake.c]] n _ (Kd.R_reads' R2.out).2.2 (Nat.le_refl _) HN.out).mono ?_
  rintro e w3 ⟨vn, rfl, hR3, hB3⟩
  obtain ⟨An, cn, rfl⟩ := Kd.R_slice hR3
  have B3 := Aside0.mk (B2.out.trans (hB3.mono B2.out.size))
  have R1b := Aside0.mk (Kd.R_below (Kd.R_alloc R1.out (.cells #[.slice (some ⟨w.heap.size, 0, none⟩) 3 3] 22)) hB3)
  have RN := Aside0.mk hR3
  clear hR3 hB3 R1 R2 B2
  go_upto_region 3 with (fail)
  refine Thw.region_tail 4 (by kernel_rfl) (by kernel_rfl) (fun W => Kd.R k36 36 W w.heap.size (fun _ => True) (.slice (some ⟨w.heap.size, 0, none⟩) 3 3) [thwartlaw15_awake.a, thwartlaw15_awake.b, thwartlaw15_awake.c] ∧ Kd.R k36 36 W w.heap.size (fun _ => True) (.slice An n.length cn) n ∧ Below w.heap.size w W) ⟨Kd.R_drew R1b.out, Kd.R_drew (Kd.R_lower RN.out (by simp; omega)), B3.out.drew⟩ ?_
  rintro w4 ⟨r4, n4, b4⟩
  have R4 := Aside0.mk r4
  have N4 := Aside0.mk n4
  have B4 := Aside0.mk b4
  clear r4 n4 b4 R1b RN B3
  simp only [List.take_succ_cons, List.take_zero, List.drop_succ_cons, List.drop_zero]
  repeat still_step
  refine wpStill_nil ?_
  go_wp2_with fail
  have R5 := Aside0.mk (Kd.R_alloc R4.out (.cells #[.slice (some ⟨w.heap.size, 0, none⟩) 1 3, .slice (some ⟨w.heap.size, 4, none⟩) 2 2] 22))
  have N5 := Aside0.mk (Kd.R_alloc N4.out (.cells #[.slice (some ⟨w.heap.size, 0, none⟩) 1 3, .slice (some ⟨w.heap.size, 4, none⟩) 2 2] 22))
  have B5 := Aside0.mk (B4.out.alloc B4.out.size (.cells #[.slice (some ⟨w.heap.size, 0, none⟩) 1 3, .slice (some ⟨w.heap.size, 4, none⟩) 2 2] 22))
  have X5 := Aside0.mk (blk_new w4 (.cells #[.slice (some ⟨w.heap.size, 0, none⟩) 1 3, .slice (some ⟨w.heap.size, 4, none⟩) 2 2] 22))
  generalize w4.alloc (.cells #[.slice (some ⟨w.heap.size, 0, none⟩) 1 3, .slice (some ⟨w.heap.size, 4, none⟩) 2 2] 22) = w5 at R5 N5 B5 X5 ⊢
  have hC := (Kd.R_reads' R5.out).2.2
  have hC1 := Kd.C_take hC (m := 1) (by decide)
  have hC2 := Kd.C_drop (c := 3) hC (m := 1) (by decide) (by decide)
  have C5 : Kd.C (Kd.slice 36 k36) w5 (some ⟨w4.heap.size, 0, none⟩) 2 [[thwartlaw15_awake.a], [thwartlaw15_awake.b, thwartlaw15_awake.c]] :=
    ⟨rfl, by decide, fun _ => ⟨_, rfl, fun j p hp => by
      match j, hp with
      | 0, hp =>
        cases hp
        refine ⟨[.slice (some ⟨w.heap.size, 0, none⟩) 1 3], rfl, ⟨_, 3, rfl, by decide, hC1⟩, fun i u hu => ?_⟩
        match i, hu with
        | 0, hu => cases hu; simp [World.cell?, Addr.add, X5.out]
        | i + 1, hu => simp at hu
      | 1, hp =>
        cases hp
        refine ⟨[.slice (some ⟨w.heap.size, 4, none⟩) 2 2], rfl, ⟨_, 2, rfl, by decide, hC2⟩, fun i u hu => ?_⟩
        match i, hu with
        | 0, hu => cases hu; show w5.cell? ⟨w4.heap.size, 1, none⟩ = _; simp [World.cell?, X5.out]
        | i + 1, hu => simp at hu
      | n + 2, hp => simp at hp⟩⟩
  clear hC hC1 hC2
  refine (merge_Live.calls k _ 2 [[thwartlaw15_awake.a], [thwartlaw15_awake.b, thwartlaw15_awake.c]] v _ C5 (Nat.le_refl _) HV.out).mono ?_
  rintro e w6 ⟨vv, rfl, hR6, hB6⟩
  obtain ⟨Av, cv, rfl⟩ := Kd.R_slice hR6
  have B6 := Aside0.mk (B5.out.trans (hB6.mono B5.out.size))
  have R6 := Aside0.mk (Kd.R_below R5.out hB6)
  have N6 := Aside0.mk (Kd.R_below N5.out hB6)
  have V6 := Aside0.mk (Kd.R_lower hR6 B5.out.size)
  clear hR6 hB6 C5 R5 N5 B5 X5 R4 N4 B4
  obtain ⟨ha1, ha2, ha3⟩ := HALL.out
  obtain rfl := thwartlaw15_awake.T_inj n [thwartlaw15_awake.b, thwartlaw15_awake.c] ha1
  obtain rfl := thwartlaw15_awake.T_inj v [thwartlaw15_awake.c] ha2
  have HB3 := Aside0.mk ha3
  clear ha1 ha2 ha3
  go_upto_region 4 with (fail)
  refine Thw.region_tail 37 (by kernel_rfl) (by kernel_rfl) (fun W => Kd.R k36 36 W w.heap.size (fun _ => True) (.slice (some ⟨w.heap.size, 0, none⟩) 3 3) [thwartlaw15_awake.a, thwartlaw15_awake.b, thwartlaw15_awake.c] ∧ Kd.R k36 36 W w.heap.size (fun _ => True) (.slice An 2 cn) [thwartlaw15_awake.b, thwartlaw15_awake.c] ∧ Kd.R k36 36 W w.heap.size (fun _ => True) (.slice Av 1 cv) [thwartlaw15_awake.c] ∧ Below w.heap.size w W) ⟨Kd.R_drew R6.out, Kd.R_drew N6.out, Kd.R_drew V6.out, B6.out.drew⟩ ?_
  rintro w7 ⟨r7, n7, v7, b7⟩
  obtain ⟨gn, rfl⟩ := thwartlaw15_awake.base_ n7
  obtain ⟨gv, rfl⟩ := thwartlaw15_awake.base_ v7
  obtain ⟨p0, p1, p2, p3⟩ := merge_Live.at_ n7 0 thwartlaw15_awake.b rfl
  obtain ⟨q0, q1, q2, q3⟩ := merge_Live.at_ n7 1 thwartlaw15_awake.c rfl
  obtain ⟨s0, s1, s2, s3⟩ := merge_Live.at_ v7 0 thwartlaw15_awake.c rfl
  obtain ⟨t0, t1, t2, t3⟩ := merge_Live.at_ r7 1 thwartlaw15_awake.b rfl
  obtain ⟨u0, u1, u2, u3⟩ := merge_Live.at_ r7 2 thwartlaw15_awake.c rfl
  have heb := thwartlaw15_awake.eqb
  have hec := thwartlaw15_awake.eqc
  have R7 := Aside0.mk r7
  have B7 := Aside0.mk b7
  clear n7 v7 b7 r7 R6 N6 V6 B6
  simp [thwartlaw15_awake.b, thwartlaw15_awake.c] at p0 p1 p2 p3 q0 q1 q2 q3 s0 s1 s2 s3 t0 t1 t2 t3 u0 u1 u2 u3
  simp only [List.take_succ_cons, List.take_zero, List.drop_succ_cons, List.drop_zero]
  repeat still_step
  refine wpStill_nil ?_
  clear p0 p1 p2 p3 q0 q1 q2 q3 s0 s1 s2 s3 t0 t1 t2 t3 u0 u1 u2 u3 heb hec
  go_wp2_with fail
  refine (merge_Batches.calls _ 3 [thwartlaw15_awake.a, thwartlaw15_awake.b, thwartlaw15_awake.c] bs _ (Kd.R_reads' R7.out).2.2 (by decide) HBS.out).mono ?_
  rintro e w8 ⟨vb, rfl, hS8, hB8⟩
  obtain ⟨Ab, cb, rfl⟩ := Kd.S_slice hS8
  have B8 := Aside0.mk (B7.out.trans (hB8.mono B7.out.size))
  rw [HB3.out]
  clear hS8 hB8
  go_wp2_with fail
  go_ret
  exact ⟨rfl, B8.out⟩

/-! ### thwartref03_Same: function 9 -/
def thwartref03_Same.l0 : Nat → List (S36) → List (S36) → Int → Option (Bool)
 | 0,_,_,_ => none
 | k + 1,x0,x1,x5 => if x5 < (x0.length : Int) then (if 0 ≤ x5 then (if x5 < (x1.length : Int) then (if (!(((rd_T36 x0 x5).f0) == ((rd_T36 x1 x5).f0)) || (!((((rd_T36 x0 x5).f1).toList) == (((rd_T36 x1 x5).f1).toList)) || (!((((rd_T36 x0 x5).f2).toList) == (((rd_T36 x1 x5).f2).toList)) || (!(((rd_T36 x0 x5).f3) == ((rd_T36 x1 x5).f3)))))) = true then (some false) else (thwartref03_Same.l0 k x0 x1 (wrap64 (x5 + 1)))) else (none)) else (none)) else (some true)
def thwartref03_Same.f (k : Nat) (l0 : List (S36)) (l1 : List (S36)) : Option (Bool):=if (l0.length : Int) = (l1.length : Int) then (thwartref03_Same.l0 k l0 l1 0) else (some false)
theorem thwartref03_Same.mono_l : ∀ k,(∀ y0 y1 y2,LeO (thwartref03_Same.l0 k y0 y1 y2) (thwartref03_Same.l0 (k + 1) y0 y1 y2))
 | 0 => fun _ _ _ r h => by simp [thwartref03_Same.l0] at h
 | k + 1 => by
  have ih0:=thwartref03_Same.mono_l k
  ·intro y0 y1 y2
   unfold thwartref03_Same.l0
   repeat' first
   | (with_reducible exact ih0 _ _ _)
   | (with_reducible exact LeO.refl _)
   | (with_reducible exact LeO.none _)
   | (with_reducible refine LeO.ite ?_ ?_)
   | (with_reducible refine LeO.bind ?_ (fun _ => ?_))
   | exact ih0 _ _ _
   | exact LeO.none _
   | refine LeO.ite ?_ ?_
   | refine LeO.bind ?_ (fun _ => ?_)
theorem thwartref03_Same.mono : ∀ a0 a1 k,LeO (thwartref03_Same.f k a0 a1) (thwartref03_Same.f (k + 1) a0 a1):=by
 intro a0 a1 k
 have ih0:=thwartref03_Same.mono_l k
 unfold thwartref03_Same.f
 repeat' first
   | (with_reducible exact ih0 _ _ _)
   | (with_reducible exact LeO.refl _)
   | (with_reducible exact LeO.none _)
   | (with_reducible refine LeO.ite ?_ ?_)
   | (with_reducible refine LeO.bind ?_ (fun _ => ?_))
   | exact ih0 _ _ _
   | exact LeO.none _
   | refine LeO.ite ?_ ?_
   | refine LeO.bind ?_ (fun _ => ?_)
set_option maxHeartbeats 8000000 in
set_option maxRecDepth 100000 in
theorem thwartref03_Same.calls (k : Nat) (A0 : Option Addr) (c0 : Nat) (l0 : List (S36)) (A1 : Option Addr) (c1 : Nat) (l1 : List (S36)) (r : Bool) (w : World) (hr0 : Kd.C k36 w A0 l0.length l0) (hc0 : l0.length ≤ c0) (hr1 : Kd.C k36 w A1 l1.length l1) (hc1 : l1.length ≤ c1) (h : thwartref03_Same.f k l0 l1 = some r) :
  Calls Try.prog 9 #[.slice A0 l0.length c0,.slice A1 l1.length c1] w fun e w' => e = .returned (.bool r) ∧ Drawn0 w w' := by
 have hu36:=Try.underlying36
 have HR0:=Aside0.mk hr0
 have HC0:=Aside0.mk hc0
 clear hr0 hc0
 have HR1:=Aside0.mk hr1
 have HC1:=Aside0.mk hc1
 clear hr1 hc1
 have H : (if (l0.length : Int) = (l1.length : Int) then (thwartref03_Same.l0 k l0 l1 0) else (some false)) = some r:=h
 clear h
 by_cases c3 : (l0.length : Int) = (l1.length : Int)
 ·rw [if_pos c3] at H
  have c3b0 : ((l0.length : Int) == (l1.length : Int)) = true:=beq_iff_eq.mpr c3
  have c3b1 : ((l0.length : Int) != (l1.length : Int)) = false:=bne_eq_false_iff_eq.mpr c3
  have c3b2 : (l0.length == l1.length) = true:=by first | simpa using c3 | (simp at c3 ⊢;omega)
  clear c3
  have H' := Aside0.mk H
  clear H
  go_enter Try.func9,Try.ntmps9
  go_wp2
  repeat (go_quiet (fail);try go_wp2)
  go_loopg [5] k (fun kq v5 w' => ∃ (x5_1 : Int),v5 = .int .i64 x5_1 ∧ Aside0 (thwartref03_Same.l0 kq l0 l1 x5_1 = some r) ∧ Aside0 (kq ≤ k) ∧ Drawn0 w w')
  case atStart => exact ⟨(0),(by first | rfl | (simp;done) | (simp [*];done)),H',⟨Nat.le_refl _⟩,by repeat (first | exact Drawn0.refl _ | apply Drawn0.step)⟩
  case round =>
   clear H'
   try clear c1
   try clear p2
   try clear c3
   try clear c3b0
   try clear c3b1
   try clear c3b2
   obtain ⟨x5_1,rfl,HA,HK1,⟨m1,rfl⟩⟩:=hrel
   cases gk with
   | zero => exact absurd HA.out (by simp [thwartref03_Same.l0])
   | succ k1 =>
    have H:=HA.out
    clear HA
    simp only [thwartref03_Same.l0] at H
    by_cases c4 : x5_1 < (l0.length : Int)
    ·rw [if_pos c4] at H
     have c4b0 : decide (x5_1 < (l0.length : Int)) = true:=decide_eq_true c4
     clear c4
     by_cases c5 : 0 ≤ x5_1
     ·rw [if_pos c5] at H
      have c5b0 : decide (0 ≤ x5_1) = true:=decide_eq_true c5
      clear c5
      by_cases c6 : x5_1 < (l1.length : Int)
      ·rw [if_pos c6] at H
       have c6b0 : decide (x5_1 < (l1.length : Int)) = true:=decide_eq_true c6
       clear c6
       by_cases c7 : (!(((rd_T36 l0 x5_1).f0) == ((rd_T36 l1 x5_1).f0)) || (!((((rd_T36 l0 x5_1).f1).toList) == (((rd_T36 l1 x5_1).f1).toList)) || (!((((rd_T36 l0 x5_1).f2).toList) == (((rd_T36 l1 x5_1).f2).toList)) || (!(((rd_T36 l0 x5_1).f3) == ((rd_T36 l1 x5_1).f3)))))) = true
       ·rw [if_pos c7] at H
        have c7b0 : (!(((rd_T36 l0 x5_1).f0) == ((rd_T36 l1 x5_1).f0)) || (!((((rd_T36 l0 x5_1).f1).toList) == (((rd_T36 l1 x5_1).f1).toList)) || (!((((rd_T36 l0 x5_1).f2).toList) == (((rd_T36 l1 x5_1).f2).toList)) || (!(((rd_T36 l0 x5_1).f3) == ((rd_T36 l1 x5_1).f3)))))) = true:=c7
        clear c7
        obtain rfl:=Option.some.inj H
        have p105 : 0 ≤ (x5_1 : Int):=of_decide_eq_true (by first | (with_reducible assumption) | assumption)
        have q105 : x5_1 < (l0.length : Int):=of_decide_eq_true (by first | (with_reducible assumption) | assumption)
        obtain ⟨ad105,e105,hx105_0,hx105_1,hx105_2,hx105_3⟩:=at_T36 HR0.out x5_1 p105 q105
        cases e105
        replace p105:=eq_true p105
        replace q105:=eq_true q105
        have p106 : 0 ≤ (x5_1 : Int):=of_decide_eq_true (by first | (with_reducible assumption) | assumption)
        have q106 : x5_1 < (l1.length : Int):=of_decide_eq_true (by first | (with_reducible assumption) | assumption)
        obtain ⟨ad106,e106,hx106_0,hx106_1,hx106_2,hx106_3⟩:=at_T36 HR1.out x5_1 p106 q106
        cases e106
        replace p106:=eq_true p106
        replace q106:=eq_true q106
        go_wp2
        repeat (go_quiet (fail);try go_wp2)
        go_ret
        exact ⟨by first | rfl | (simp;done) | (simp [*];done),by repeat (first | exact Drawn0.refl _ | apply Drawn0.step)⟩
       ·rw [if_neg c7] at H
        have c7b0 : (!(((rd_T36 l0 x5_1).f0) == ((rd_T36 l1 x5_1).f0)) || (!((((rd_T36 l0 x5_1).f1).toList) == (((rd_T36 l1 x5_1).f1).toList)) || (!((((rd_T36 l0 x5_1).f2).toList) == (((rd_T36 l1 x5_1).f2).toList)) || (!(((rd_T36 l0 x5_1).f3) == ((rd_T36 l1 x5_1).f3)))))) = false:=by simpa using c7
        clear c7
        have H' := Aside0.mk H
        clear H
        have p105 : 0 ≤ (x5_1 : Int):=of_decide_eq_true (by first | (with_reducible assumption) | assumption)
        have q105 : x5_1 < (l0.length : Int):=of_decide_eq_true (by first | (with_reducible assumption) | assumption)
        obtain ⟨ad105,e105,hx105_0,hx105_1,hx105_2,hx105_3⟩:=at_T36 HR0.out x5_1 p105 q105
        cases e105
        replace p105:=eq_true p105
        replace q105:=eq_true q105
        have p106 : 0 ≤ (x5_1 : Int):=of_decide_eq_true (by first | (with_reducible assumption) | assumption)
        have q106 : x5_1 < (l1.length : Int):=of_decide_eq_true (by first | (with_reducible assumption) | assumption)
        obtain ⟨ad106,e106,hx106_0,hx106_1,hx106_2,hx106_3⟩:=at_T36 HR1.out x5_1 p106 q106
        cases e106
        replace p106:=eq_true p106
        replace q106:=eq_true q106
        go_wp2
        repeat (go_quiet (fail);try go_wp2)
        go_roundg k1
        case measure => have:=HK1.out;omega
        case rel => exact ⟨(wrap64 (x5_1 + 1)),(by first | rfl | (simp;done) | (simp [*];done)),H',⟨by have:=HK1.out;omega⟩,by repeat (first | exact Drawn0.refl _ | apply Drawn0.step)⟩
      ·rw [if_neg c6] at H
       exact absurd H (by simp)
     ·rw [if_neg c5] at H
      exact absurd H (by simp)
    ·rw [if_neg c4] at H
     have c4b0 : decide (x5_1 < (l0.length : Int)) = false:=decide_eq_false c4
     clear c4
     obtain rfl:=Option.some.inj H
     go_wp2
     repeat (go_quiet (fail);try go_wp2)
     go_ret
     exact ⟨by first | rfl | (simp;done) | (simp [*];done),by repeat (first | exact Drawn0.refl _ | apply Drawn0.step)⟩
 ·rw [if_neg c3] at H
  have c3b0 : ((l0.length : Int) == (l1.length : Int)) = false:=beq_eq_false_iff_ne.mpr c3
  have c3b1 : ((l0.length : Int) != (l1.length : Int)) = true:=bne_iff_ne.mpr c3
  have c3b2 : (l0.length == l1.length) = false:=by first | simpa using c3 | (simp at c3 ⊢;omega)
  obtain rfl:=Option.some.inj H
  go_enter Try.func9,Try.ntmps9
  go_wp2
  repeat (go_quiet (fail);try go_wp2)
  go_ret
  exact ⟨by first | rfl | (simp;done) | (simp [*];done),by repeat (first | exact Drawn0.refl _ | apply Drawn0.step)⟩

/-! ### thwartref03_Light: function 28 -/
def thwartref03_Light.l0 : Nat → List (S36) → Int → Int → Option (Bool)
 | 0,_,_,_ => none
 | k + 1,x0,x3,x4 => if x4 < (x0.length : Int) then (if x4 < 100 then (if 0 ≤ x4 then (thwartref03_Light.l0 k x0 (wrap64 ((wrap64 (x3 + (mn (((rd_T36 x0 x4).f1).size : Int) 10000))) + (mn (((rd_T36 x0 x4).f2).size : Int) 10000))) (wrap64 (x4 + 1))) else (none)) else (if (x0.length : Int) ≤ 40 then (some (decide (x3 < 4000))) else (some false))) else (if (x0.length : Int) ≤ 40 then (some (decide (x3 < 4000))) else (some false))
def thwartref03_Light.f (k : Nat) (l0 : List (S36)) : Option (Bool):=thwartref03_Light.l0 k l0 0 0
theorem thwartref03_Light.mono_l : ∀ k,(∀ y0 y1 y2,LeO (thwartref03_Light.l0 k y0 y1 y2) (thwartref03_Light.l0 (k + 1) y0 y1 y2))
 | 0 => fun _ _ _ r h => by simp [thwartref03_Light.l0] at h
 | k + 1 => by
  have ih0:=thwartref03_Light.mono_l k
  ·intro y0 y1 y2
   unfold thwartref03_Light.l0
   repeat' first
   | (with_reducible exact ih0 _ _ _)
   | (with_reducible exact LeO.refl _)
   | (with_reducible exact LeO.none _)
   | (with_reducible refine LeO.ite ?_ ?_)
   | (with_reducible refine LeO.bind ?_ (fun _ => ?_))
   | exact ih0 _ _ _
   | exact LeO.none _
   | refine LeO.ite ?_ ?_
   | refine LeO.bind ?_ (fun _ => ?_)
theorem thwartref03_Light.mono : ∀ a0 k,LeO (thwartref03_Light.f k a0) (thwartref03_Light.f (k + 1) a0):=by
 intro a0 k
 have ih0:=thwartref03_Light.mono_l k
 unfold thwartref03_Light.f
 repeat' first
   | (with_reducible exact ih0 _ _ _)
   | (with_reducible exact LeO.refl _)
   | (with_reducible exact LeO.none _)
   | (with_reducible refine LeO.ite ?_ ?_)
   | (with_reducible refine LeO.bind ?_ (fun _ => ?_))
   | exact ih0 _ _ _
   | exact LeO.none _
   | refine LeO.ite ?_ ?_
   | refine LeO.bind ?_ (fun _ => ?_)
set_option maxHeartbeats 8000000 in
set_option maxRecDepth 100000 in
theorem thwartref03_Light.calls (k : Nat) (A0 : Option Addr) (c0 : Nat) (l0 : List (S36)) (r : Bool) (w : World) (hr0 : Kd.C k36 w A0 l0.length l0) (hc0 : l0.length ≤ c0) (h : thwartref03_Light.f k l0 = some r) :
  Calls Try.prog 28 #[.slice A0 l0.length c0] w fun e w' => e = .returned (.bool r) ∧ Below w.heap.size w w' := by
 have HR0:=Aside0.mk hr0
 have HC0:=Aside0.mk hc0
 clear hr0 hc0
 have HB:=Aside0.mk (Below.refl w.heap.size w)
 have H : (thwartref03_Light.l0 k l0 0 0) = some r:=h
 clear h
 have H' := Aside0.mk H
 clear H
 go_enter Try.func28,Try.ntmps28
 go_wp2
 repeat (go_quiet (fail);try go_wp2)
 go_loopg [3,4] k (fun kq v3 v4 w' => ∃ (x3_1 : Int) (x4_1 : Int),v3 = .int .i64 x3_1 ∧ v4 = .int .i64 x4_1 ∧ Aside0 (thwartref03_Light.l0 kq l0 x3_1 x4_1 = some r) ∧ Aside0 (kq ≤ k) ∧ Aside0 (Below w.heap.size w w'))
 case atStart => exact ⟨(0),(0),(by first | rfl | (simp;done) | (simp [*];done)),(by first | rfl | (simp;done) | (simp [*];done)),H',⟨Nat.le_refl _⟩,⟨by repeat (first | (with_reducible first | exact HB.out | apply below_alloc | apply pw_below_drewN | apply below_drew1) | exact HB.out)⟩⟩
 case round =>
  clear H'
  obtain ⟨x3_1,x4_1,rfl,rfl,HA,HK1,HB⟩:=hrel
  cases gk with
  | zero => exact absurd HA.out (by simp [thwartref03_Light.l0])
  | succ k1 =>
   have H:=HA.out
   clear HA
   simp only [thwartref03_Light.l0] at H
   by_cases c2 : x4_1 < (l0.length : Int)
   ·rw [if_pos c2] at H
    have c2b0 : decide (x4_1 < (l0.length : Int)) = true:=decide_eq_true c2
    clear c2
    by_cases c3 : x4_1 < 100
    ·rw [if_pos c3] at H
     have c3b0 : decide (x4_1 < 100) = true:=decide_eq_true c3
     clear c3
     by_cases c4 : 0 ≤ x4_1
     ·rw [if_pos c4] at H
      have c4b0 : decide (0 ≤ x4_1) = true:=decide_eq_true c4
      clear c4
      obtain ⟨ji5,hji5⟩ : ∃ j_ : Int,(mn (((rd_T36 l0 x4_1).f1).size : Int) 10000) = j_:=⟨_,rfl⟩
      replace H : (thwartref03_Light.l0 k1 l0 (wrap64 ((wrap64 (x3_1 + (ji5))) + (mn (((rd_T36 l0 x4_1).f2).size : Int) 10000))) (wrap64 (x4_1 + 1))) = some r:=by first | (rw [hji5] at H;exact H) | (simp only [hji5] at H ⊢;exact H)
      have hji5_ : (if 10000 < (((rd_T36 l0 x4_1).f1).size : Int) then 10000 else (((rd_T36 l0 x4_1).f1).size : Int)) = ji5:=hji5
      obtain ⟨ji6,hji6⟩ : ∃ j_ : Int,(mn (((rd_T36 l0 x4_1).f2).size : Int) 10000) = j_:=⟨_,rfl⟩
      replace H : (thwartref03_Light.l0 k1 l0 (wrap64 ((wrap64 (x3_1 + (ji5))) + (ji6))) (wrap64 (x4_1 + 1))) = some r:=by first | (rw [hji6] at H;exact H) | (simp only [hji6] at H ⊢;exact H)
      have hji6_ : (if 10000 < (((rd_T36 l0 x4_1).f2).size : Int) then 10000 else (((rd_T36 l0 x4_1).f2).size : Int)) = ji6:=hji6
      have H' := Aside0.mk H
      clear H
      have p107 : 0 ≤ (x4_1 : Int):=of_decide_eq_true (by first | (with_reducible assumption) | assumption)
      have q107 : x4_1 < (l0.length : Int):=of_decide_eq_true (by first | (with_reducible assumption) | assumption)
      obtain ⟨ad107,e107,hx107_0,hx107_1,hx107_2,hx107_3⟩:=at_T36 HR0.out x4_1 p107 q107
      cases e107
      replace hx107_0:=(HB.out.cell (World.block_lt_of_cell? w _ hx107_0)).trans hx107_0
      replace hx107_1:=(HB.out.cell (World.block_lt_of_cell? w _ hx107_1)).trans hx107_1
      replace hx107_2:=(HB.out.cell (World.block_lt_of_cell? w _ hx107_2)).trans hx107_2
      replace hx107_3:=(HB.out.cell (World.block_lt_of_cell? w _ hx107_3)).trans hx107_3
      replace p107:=eq_true p107
      replace q107:=eq_true q107
      have p108 : 0 ≤ (x4_1 : Int):=of_decide_eq_true (by first | (with_reducible assumption) | assumption)
      have q108 : x4_1 < (l0.length : Int):=of_decide_eq_true (by first | (with_reducible assumption) | assumption)
      obtain ⟨ad108,e108,hx108_0,hx108_1,hx108_2,hx108_3⟩:=at_T36 HR0.out x4_1 p108 q108
      obtain rfl : ad107 = ad108:=(by injection e108)
      replace hx108_0:=(HB.out.cell (World.block_lt_of_cell? w _ hx108_0)).trans hx108_0
      replace hx108_1:=(HB.out.cell (World.block_lt_of_cell? w _ hx108_1)).trans hx108_1
      replace hx108_2:=(HB.out.cell (World.block_lt_of_cell? w _ hx108_2)).trans hx108_2
      replace hx108_3:=(HB.out.cell (World.block_lt_of_cell? w _ hx108_3)).trans hx108_3
      replace p108:=eq_true p108
      replace q108:=eq_true q108
      go_wp2
      repeat (go_quiet (fail);try go_wp2)
      go_roundg k1
      case measure => have:=HK1.out;omega
      case rel => exact ⟨(wrap64 ((wrap64 (x3_1 + (ji5))) + (ji6))),(wrap64 (x4_1 + 1)),(by first | rfl | (simp;done) | (simp only [← hji5,← hji6] <;> (first | rfl | simp)) | (simp [*];done)),(by first | rfl | (simp;done) | (simp [*];done)),H',⟨by have:=HK1.out;omega⟩,⟨by repeat (first | (with_reducible first | exact HB.out | apply below_alloc | apply pw_below_drewN | apply below_drew1) | exact HB.out)⟩⟩
     ·rw [if_neg c4] at H
      exact absurd H (by simp)
    ·rw [if_neg c3] at H
     have c3b0 : decide (x4_1 < 100) = false:=decide_eq_false c3
     clear c3
     by_cases c7 : (l0.length : Int) ≤ 40
     ·rw [if_pos c7] at H
      have c7b0 : decide ((l0.length : Int) ≤ 40) = true:=decide_eq_true c7
      have c7b1 : decide (l0.length ≤ 40) = true:=decide_eq_true (by omega)
      clear c7
      obtain rfl:=Option.some.inj H
      go_wp2
      repeat (go_quiet (fail);try go_wp2)
      go_ret
      exact ⟨by first | rfl | (simp [errW_none,errW_some] <;> rfl) | (simp [*,errW_none,errW_some] <;> rfl) | (simp [errW_none,errW_some];exact isEmpty_bne _),by repeat (first | (with_reducible first | exact HB.out | apply below_alloc | apply pw_below_drewN | apply below_drew1) | exact HB.out)⟩
     ·rw [if_neg c7] at H
      have c7b0 : decide ((l0.length : Int) ≤ 40) = false:=decide_eq_false c7
      have c7b1 : decide (l0.length ≤ 40) = false:=decide_eq_false (by omega)
      clear c7
      obtain rfl:=Option.some.inj H
      go_wp2
      repeat (go_quiet (fail);try go_wp2)
      go_ret
      exact ⟨by first | rfl | (simp [errW_none,errW_some] <;> rfl) | (simp [*,errW_none,errW_some] <;> rfl) | (simp [errW_none,errW_some];exact isEmpty_bne _),by repeat (first | (with_reducible first | exact HB.out | apply below_alloc | apply pw_below_drewN | apply below_drew1) | exact HB.out)⟩
   ·rw [if_neg c2] at H
    have c2b0 : decide (x4_1 < (l0.length : Int)) = false:=decide_eq_false c2
    clear c2
    by_cases c8 : (l0.length : Int) ≤ 40
    ·rw [if_pos c8] at H
     have c8b0 : decide ((l0.length : Int) ≤ 40) = true:=decide_eq_true c8
     have c8b1 : decide (l0.length ≤ 40) = true:=decide_eq_true (by omega)
     clear c8
     obtain rfl:=Option.some.inj H
     go_wp2
     repeat (go_quiet (fail);try go_wp2)
     go_ret
     exact ⟨by first | rfl | (simp [errW_none,errW_some] <;> rfl) | (simp [*,errW_none,errW_some] <;> rfl) | (simp [errW_none,errW_some];exact isEmpty_bne _),by repeat (first | (with_reducible first | exact HB.out | apply below_alloc | apply pw_below_drewN | apply below_drew1) | exact HB.out)⟩
    ·rw [if_neg c8] at H
     have c8b0 : decide ((l0.length : Int) ≤ 40) = false:=decide_eq_false c8
     have c8b1 : decide (l0.length ≤ 40) = false:=decide_eq_false (by omega)
     clear c8
     obtain rfl:=Option.some.inj H
     go_wp2
     repeat (go_quiet (fail);try go_wp2)
     go_ret
     exact ⟨by first | rfl | (simp [errW_none,errW_some] <;> rfl) | (simp [*,errW_none,errW_some] <;> rfl) | (simp [errW_none,errW_some];exact isEmpty_bne _),by repeat (first | (with_reducible first | exact HB.out | apply below_alloc | apply pw_below_drewN | apply below_drew1) | exact HB.out)⟩

end Go.Proofs.Ytlfhnpecfkhcpaa.Print
