/- Layer 10: rising (slices.Clone, DeleteFunc, SortFunc at slots). -/
import Derived.Test.YtcpjfpbfopkngaaEv10d
import Derived.Test.YtcpjfpbfopkngaaEv10K
namespace Go.Proofs.Ytcpjfpbfopkngaa.Thw
open Go Go.RowKit Go.Proofs.YtcpjfpbfopkngaaW.PrintWords Go.Proofs.YtcpjfpbfopkngaaW.PrintLast Go.Proofs.YtcpjfpbfopkngaaW.PrintMore
set_option linter.unusedVariables false
set_option linter.unusedSimpArgs false
/-- A slot that has no key. -/
def gn (x : Slt) : Bool := !x.2.2
set_option maxHeartbeats 3200000 in
theorem slots_gone (x : Slt) (W : World) : Calls Try.prog 40 #[.agg #[.string x.1, .int .i64 x.2.1.1, .int .i64 x.2.1.2.1, .int .i64 x.2.1.2.2.1, .int .u64 x.2.1.2.2.2, .bool x.2.2]] W fun e w' => e = .returned (.bool (gn x)) ∧ Below W.heap.size W w' := by
  go_enter Try.func40, Try.ntmps40
  go_wp2_with fail
  go_ret
  exact ⟨rfl, (Below.refl _ _).alloc (Nat.le_refl _) _⟩
def slots_first (xs : List Slt) : Int := if xs.findIdx (fun x => gn x) < xs.length then (xs.findIdx (fun x => gn x) : Int) else -1
set_option maxHeartbeats 6400000 in
set_option maxRecDepth 100000 in
theorem slots_index (A : Option Addr) (c : Nat) (xs : List Slt) (w : World) (hc : Kd.C kS w A xs.length xs) (hn : xs.length ≤ 1000000) :
    Calls Try.prog 45 #[.slice A xs.length c, .func (.func 40) #[] #[]] w fun e w' => e = .returned (.int .i64 (slots_first xs)) ∧ Below w.heap.size w w' := by
  have HC := Aside0.mk hc
  clear hc
  go_enter Try.func45, Try.ntmps45
  go_wp2_with fail
  go_loopw [8] (fun v8 wr => ∃ i : Nat, i ≤ xs.length ∧ v8 = .int .i64 i ∧ Aside0 (i ≤ xs.findIdx (fun x => gn x)) ∧ Aside0 (Below w.heap.size w wr)) (fun v8 _ => xs.length - (intOf v8).toNat)
  case atStart => exact ⟨0, by omega, rfl, ⟨Nat.zero_le _⟩, ⟨Below.refl _ _⟩⟩
  case round =>
    obtain ⟨i, hi, rfl, HI, HB⟩ := hrel
    by_cases hlt : i < xs.length
    · have d1 : decide ((i : Int) < (xs.length : Int)) = true := decide_eq_true (by omega)
      obtain ⟨ad, e, x0, x1, x2, x3, x4, x5⟩ := C_slAt (Kd.C_below HC.out HB.out) hlt
      cases e
      obtain ⟨x, hxe⟩ : ∃ x, xs[i] = x := ⟨_, rfl⟩
      rw [hxe] at x0 x1 x2 x3 x4 x5
      have HX := Aside0.mk hxe
      clear hxe
      have i0 : 0 ≤ (i : Int) := by omega
      have i1 : (i : Int) < (xs.length : Int) := by omega
      go_wp2_with fail
      refine (slots_gone x _).mono ?_
      rintro e w2 ⟨rfl, b2⟩
      have B2 := Aside0.mk (HB.out.trans (b2.mono HB.out.size))
      clear b2 x0 x1 x2 x3 x4 x5
      cases hf : gn x with
      | true =>
        have hfi : xs.findIdx (fun x => gn x) = i := by
          rw [List.findIdx_eq hlt]
          refine ⟨by rw [HX.out]; exact hf, fun j hj => ?_⟩
          have := List.not_of_lt_findIdx (p := fun x : Slt => gn x) (xs := xs) (i := j) (by have := HI.out; omega)
          simpa using this
        have HR := Aside0.mk (show slots_first xs = (i : Int) by unfold slots_first; rw [hfi, if_pos hlt])
        clear hfi hf
        go_wp2_with fail
        go_ret
        rw [HR.out]
        exact ⟨rfl, B2.out⟩
      | false =>
        have HI2 := Aside0.mk (show i + 1 ≤ xs.findIdx (fun x => gn x) by
          rcases Nat.lt_or_ge i (xs.findIdx (fun x => gn x)) with h | h
          · omega
          · have he : xs.findIdx (fun x => gn x) = i := by have := HI.out; omega
            have := List.findIdx_getElem (p := fun x : Slt => gn x) (xs := xs) (w := by omega)
            simp only [he] at this
            rw [HX.out, hf] at this
            cases this)
        clear hf
        go_wp2_with fail
        go_roundw
        case rel => exact ⟨i + 1, by omega, by go_num, HI2, B2⟩
        case measure => simp [intOf]; omega
    · have d1 : decide ((i : Int) < (xs.length : Int)) = false := decide_eq_false (by omega)
      have HR := Aside0.mk (show slots_first xs = -1 by unfold slots_first; rw [if_neg (by have := HI.out; omega)])
      go_wp2_with fail
      go_ret
      rw [HR.out]
      exact ⟨rfl, HB.out⟩
theorem slots_frozen {w : World} {base g n c : Nat} {ok : Nat → Prop} {ys : List Slt} (h : Kd.R kS 57 w base ok (.slice (some ⟨g, 0, none⟩) n c) ys) (o : Nat) : w.frozen? ⟨g, o, none⟩ = false := by
  obtain ⟨inner, hown⟩ := Kd.R_own h
  obtain ⟨cells, hc⟩ := own_typed hown g rfl
  simp [World.frozen?, hc]
theorem slots_wrap {n : Nat} (h : n < 1000000000) : wrap64 ((n : Int) + 1) = ((n + 1 : Nat) : Int) := by unfold wrap64; omega
theorem slots_at_ {w : World} {base g n c : Nat} {ok : Nat → Prop} {ys : List Slt} (h : Kd.R kS 57 w base ok (.slice (some ⟨g, 0, none⟩) n c) ys) (j : Nat) (x : Slt) (hx : ys[j]? = some x) :
    w.cell? ⟨g, j * 6, none⟩ = some (.string x.1) ∧ w.cell? ⟨g, j * 6 + 1, none⟩ = some (.int .i64 x.2.1.1) ∧ w.cell? ⟨g, j * 6 + 2, none⟩ = some (.int .i64 x.2.1.2.1) ∧ w.cell? ⟨g, j * 6 + 3, none⟩ = some (.int .i64 x.2.1.2.2.1) ∧ w.cell? ⟨g, j * 6 + 4, none⟩ = some (.int .u64 x.2.1.2.2.2) ∧ w.cell? ⟨g, j * 6 + 5, none⟩ = some (.bool x.2.2) := by
  have hj := (List.getElem?_eq_some_iff.1 hx).1
  have hx' : ys[j] = x := (List.getElem?_eq_some_iff.1 hx).2
  obtain ⟨_, _, hC⟩ := Kd.R_reads' h
  obtain ⟨ad, e, x0, x1, x2, x3, x4, x5⟩ := C_slAt hC hj
  cases e
  rw [hx'] at x0 x1 x2 x3 x4 x5
  have e2 : (⟨g, 0, none⟩ : Addr).add (j * 6) = ⟨g, j * 6, none⟩ := by
    have : (⟨g, 0, none⟩ : Addr).add (j * 6) = ⟨g, 0 + j * 6, none⟩ := by unfold Addr.add; split <;> simp_all
    rwa [Nat.zero_add] at this
  rw [e2] at x0 x1 x2 x3 x4 x5
  exact ⟨x0, x1, x2, x3, x4, x5⟩
theorem slots_some_ {w : World} {base g n c : Nat} {ok : Nat → Prop} {ys : List Slt} (h : Kd.R kS 57 w base ok (.slice (some ⟨g, 0, none⟩) n c) ys) (o : Nat) (ho : o < ys.length * 6) : (w.cell? ⟨g, o, none⟩).isSome = true := by
  obtain ⟨inner, hl, hown⟩ := Kd.R_own h
  rcases hown with ⟨hv, _⟩ | ⟨g', cap, cur, hv, hb, hg, hc1, hc2, hcs, htk⟩
  · cases hv
  · injection hv with hv1 hv2 hv3
    injection hv1 with hv1
    injection hv1 with hv1
    subst hv1
    have hsz : kS.sz = 6 := rfl
    rw [hsz] at hcs
    have : ys.length * 6 ≤ cap * 6 := Nat.mul_le_mul_right 6 hc1
    have ho2 : o < cur.size := by omega
    simp [World.cell?, hg, Array.getElem?_eq_getElem ho2]
theorem slots_clear_ {w : World} {base g n c : Nat} {ok : Nat → Prop} {ys : List Slt} (h : Kd.R kS 57 w base ok (.slice (some ⟨g, 0, none⟩) n c) ys) (i : Nat) (hi : i < ys.length) (c' ty : Nat) :
    (Builtin.clear_ #[52] ty #[.slice (some ⟨g, i * 6, none⟩) (ys.length - i) c']).run Try.prog w = .ok (.tuple #[]) (w.setCells g (i * 6) (Builtin.zeroCells (Value.agg #[.string ⟨#[]⟩, .int .i64 0, .int .i64 0, .int .i64 0, .int .u64 0, .bool false]).cells (ys.length - i)).toList) := by
  have hsz : (Value.agg #[.string ⟨#[]⟩, .int .i64 0, .int .i64 0, .int .i64 0, .int .u64 0, .bool false]).cells.size = 6 := rfl
  refine run_clear_row w 52 57 ty _ Try.underlying52 (fun w => zeroSlots w) ?_ g (i * 6) (ys.length - i) c' (by omega) (fun j hj => ?_) (fun j hj => slots_frozen h _)
  · intro u hu
    have : u = .string ⟨#[]⟩ ∨ u = .int .i64 0 ∨ u = .int .u64 0 ∨ u = .bool false := by
      have := (by simpa [Value.cells] using hu : _)
      rcases this with h | h | h | h | h | h <;> simp [h]
    rcases this with rfl | rfl | rfl | rfl <;> rfl
  · rw [hsz] at hj
    exact slots_some_ h _ (by omega)
set_option maxHeartbeats 12800000 in
set_option maxRecDepth 100000 in
theorem slots_delete (A : Option Addr) (c : Nat) (xs : List Slt) (base : Nat) (w : World) (hR : Kd.R kS 57 w base (fun _ => True) (.slice A xs.length c) xs) (hn : xs.length ≤ 1000000) (hbase : base ≤ w.heap.size) :
    Calls Try.prog 38 #[.slice A xs.length c, .func (.func 40) #[] #[]] w fun e w' => ∃ v, e = .returned v ∧ Kd.R kS 57 w' base (fun _ => True) v (xs.filter fun x => !gn x) ∧ Below base w w' := by
  have HR := Aside0.mk hR
  have HBA := Aside0.mk hbase
  have HIX := Aside0.mk (slots_index A c xs w (Kd.R_reads' hR).2.2 hn)
  clear hR hbase
  go_enter Try.func38, Try.ntmps38
  go_wp2_with fail
  refine HIX.out.mono ?_
  rintro e w1 ⟨rfl, b1⟩
  have R1 := Aside0.mk (Kd.R_below HR.out b1)
  have B1 := Aside0.mk (b1.mono HBA.out)
  clear b1
  by_cases hf : xs.findIdx (fun x => gn x) < xs.length
  case neg =>
    have e1 : slots_first xs = -1 := by unfold slots_first; rw [if_neg hf]
    have HF := Aside0.mk (show xs.filter (fun x => !gn x) = xs by
      rw [List.filter_eq_self]
      intro x hx
      have h1 : xs.findIdx (fun x => gn x) = xs.length := by have := List.findIdx_le_length (p := fun x : Slt => gn x) (xs := xs); omega
      have := List.findIdx_eq_length.1 h1 x hx
      simpa using this)
    rw [e1]
    clear e1 hf
    go_wp2_with fail
    go_ret
    rw [HF.out]
    exact ⟨_, rfl, R1.out, B1.out⟩
  obtain ⟨i0, hi0⟩ : ∃ i0, xs.findIdx (fun x => gn x) = i0 := ⟨_, rfl⟩
  have e1 : slots_first xs = (i0 : Int) := by unfold slots_first; rw [if_pos hf, hi0]
  rw [e1]
  rw [hi0] at hf
  have HF := Aside0.mk (show xs.take i0 = (xs.take (i0 + 1)).filter (fun x => !gn x) by
    rw [List.take_succ_eq_append_getElem hf, List.filter_append]
    have h1 : gn xs[i0] = true := by
      have := List.findIdx_getElem (p := fun x : Slt => gn x) (xs := xs) (w := by omega)
      simpa only [hi0] using this
    have h2 : (xs.take i0).filter (fun x => !gn x) = xs.take i0 := by
      rw [List.filter_eq_self]
      intro x hx
      obtain ⟨j, hj, rfl⟩ := List.getElem_of_mem hx
      rw [List.length_take] at hj
      have := List.not_of_lt_findIdx (p := fun x : Slt => gn x) (xs := xs) (i := j) (by omega)
      rw [List.getElem_take]
      simpa using this
    rw [h2]
    simp [h1])
  have hm1 : ((i0 : Int) == -1) = false := beq_eq_false_iff_ne.mpr (by omega)
  have HLT := Aside0.mk hf
  clear e1 hi0 hf
  cases A with
  | none =>
    exfalso
    have h1 := (Kd.R_reads' R1.out).2.2
    obtain ⟨ad, e, _⟩ := C_slAt h1 HLT.out
    cases e
  | some ad =>
    have hz : ad = ⟨ad.block, 0, none⟩ := by
      obtain ⟨inner, h1, h2⟩ := Kd.R_own R1.out
      rcases h2 with ⟨h3, _⟩ | ⟨g, cap, cur, h3, _⟩
      · cases h3
      · injection h3 with h4
        injection h4 with h4
        rw [h4]
    obtain ⟨g, hg⟩ : ∃ g, ad.block = g := ⟨_, rfl⟩
    rw [hg] at hz
    subst hz
    clear hg
    go_wp2_with fail
    go_loopw [5, 6] (fun v5 v6 wr => ∃ (i j : Nat) (ys : List Slt), v5 = .int .i64 i ∧ v6 = .int .i64 j ∧ Aside0 (i < j ∧ j ≤ xs.length ∧ ys.length = xs.length ∧ ys.take i = (xs.take j).filter (fun x => !gn x) ∧ ys.drop j = xs.drop j) ∧ Aside0 (Kd.R kS 57 wr base (fun _ => True) (.slice (some ⟨g, 0, none⟩) xs.length c) ys) ∧ Aside0 (Below base w wr)) (fun _ v6 _ => xs.length - (intOf v6).toNat)
    case atStart =>
      have hb0 := HLT.out
      exact ⟨i0, i0 + 1, xs, rfl, by rw [slots_wrap (by omega)], ⟨by omega, by have := HLT.out; omega, rfl, HF.out, rfl⟩, R1, B1⟩
    case round =>
      obtain ⟨i, j, ys, rfl, rfl, HJ, HR2, HB⟩ := hrel
      by_cases hlt : j < xs.length
      · have d1 : decide ((j : Int) < (xs.length : Int)) = true := decide_eq_true (by omega)
        obtain ⟨hij, hjn, hyl, htk, hdr⟩ := HJ.out
        obtain ⟨x, hxe⟩ : ∃ x, xs[j] = x := ⟨_, rfl⟩
        have hy : ys[j]? = some x := by
          have h1 := congrArg (fun l => l[0]?) hdr
          simp only [List.getElem?_drop, Nat.add_zero] at h1
          rw [h1, List.getElem?_eq_getElem hlt, hxe]
        obtain ⟨x0, x1, x2, x3, x4, x5⟩ := slots_at_ HR2.out j x hy
        have HX := Aside0.mk hxe
        have HTS := Aside0.mk (show (xs.take (j + 1)).filter (fun x => !gn x) = (xs.take j).filter (fun x => !gn x) ++ (if gn x then [] else [x]) by
          rw [List.take_succ_eq_append_getElem hlt, List.filter_append, hxe]
          cases hb : gn x <;> simp [hb])
        have i0' : 0 ≤ (j : Int) := by omega
        have i1' : (j : Int) < (xs.length : Int) := by omega
        clear hxe hy hij hjn hyl htk hdr
        go_upto_region 8 with (fail)
        have X2 := Aside0.mk (blk_new wr (.cells #[.string x.1, .int .i64 x.2.1.1, .int .i64 x.2.1.2.1, .int .i64 x.2.1.2.2.1, .int .u64 x.2.1.2.2.2, .bool x.2.2] 57))
        have R2 := Aside0.mk (Kd.R_alloc HR2.out (.cells #[.string x.1, .int .i64 x.2.1.1, .int .i64 x.2.1.2.1, .int .i64 x.2.1.2.2.1, .int .u64 x.2.1.2.2.2, .bool x.2.2] 57))
        have B2 := Aside0.mk (HB.out.alloc (Nat.le_trans HBA.out HB.out.size) (.cells #[.string x.1, .int .i64 x.2.1.1, .int .i64 x.2.1.2.1, .int .i64 x.2.1.2.2.1, .int .u64 x.2.1.2.2.2, .bool x.2.2] 57))
        obtain ⟨b7, hb7⟩ : ∃ b7, wr.heap.size = b7 := ⟨_, rfl⟩
        rw [hb7] at X2 ⊢
        generalize wr.alloc (.cells #[.string x.1, .int .i64 x.2.1.1, .int .i64 x.2.1.2.1, .int .i64 x.2.1.2.2.1, .int .u64 x.2.1.2.2.2, .bool x.2.2] 57) = w2 at X2 R2 B2 ⊢
        clear hb7 x0 x1 x2 x3 x4 x5 HR2 HB
        obtain ⟨c0', c1', c2', c3', c4', c5', cf'⟩ := cells6d X2.out
        go_wp2_with fail
        refine (slots_gone x _).mono ?_
        rintro e w3 ⟨rfl, b3⟩
        have X3 := Aside0.mk ((b3.block _ (blk_lt X2.out)).trans X2.out)
        have R3 := Aside0.mk (Kd.R_below R2.out b3)
        have B3 := Aside0.mk (B2.out.trans (b3.mono (Nat.le_trans HBA.out B2.out.size)))
        clear b3 c0' c1' c2' c3' c4' c5' cf' X2 R2 B2
        cases hf : gn x with
        | true =>
          rw [hf] at HTS
          clear hf
          go_wp2_with fail
          go_roundw
          case rel =>
            obtain ⟨hij, hjn, hyl, htk, hdr⟩ := HJ.out
            refine ⟨i, j + 1, ys, rfl, by go_num, ⟨by omega, by omega, hyl, by rw [HTS.out, htk]; simp, ?_⟩, R3, B3⟩
            rw [← List.drop_drop, ← List.drop_drop, hdr]
          case measure => simp [intOf]; omega
        | false =>
          rw [hf] at HTS
          have hil : i < ys.length := by obtain ⟨hij, hjn, hyl, htk, hdr⟩ := HJ.out; omega
          obtain ⟨y, hye⟩ : ∃ y, ys[i]? = some y := ⟨_, List.getElem?_eq_getElem hil⟩
          obtain ⟨y0, y1, y2, y3, y4, y5⟩ := slots_at_ R3.out i y hye
          have f0 := slots_frozen R3.out (i * 6)
          have f1 := slots_frozen R3.out (i * 6 + 1)
          have f2 := slots_frozen R3.out (i * 6 + 2)
          have f3 := slots_frozen R3.out (i * 6 + 3)
          have f4 := slots_frozen R3.out (i * 6 + 4)
          have f5 := slots_frozen R3.out (i * 6 + 5)
          obtain ⟨c0', c1', c2', c3', c4', c5', cf'⟩ := cells6d X3.out
          have i0'' : 0 ≤ (i : Int) := by omega
          have i1'' : (i : Int) < (xs.length : Int) := by obtain ⟨hij, hjn, hyl, htk, hdr⟩ := HJ.out; omega
          have HIL := Aside0.mk hil
          clear hil hye
          have HFX := Aside0.mk hf
          clear hf
          go_upto_region 10 with (fail)
          have R4 := Aside0.mk (show Kd.R kS 57 ((((((w3.setCell ⟨g, i * 6, none⟩ (.string x.1)).setCell ⟨g, i * 6 + 1, none⟩ (.int .i64 x.2.1.1)).setCell ⟨g, i * 6 + 2, none⟩ (.int .i64 x.2.1.2.1)).setCell ⟨g, i * 6 + 3, none⟩ (.int .i64 x.2.1.2.2.1)).setCell ⟨g, i * 6 + 4, none⟩ (.int .u64 x.2.1.2.2.2)).setCell ⟨g, i * 6 + 5, none⟩ (.bool x.2.2)) base (fun _ => True) (.slice (some ⟨g, 0, none⟩) xs.length c) (ys.set i x) from R_setK (enc := encS) kS_E (fun w b o x => kS_M w b o x) (fun _ => rfl) R3.out i HIL.out x)
          have HGB := Aside0.mk (own_base (Kd.R_own R3.out).choose_spec g rfl)
          have B4 := Aside0.mk ((((((B3.out.setCell (p := ⟨g, i * 6, none⟩) HGB.out (.string x.1)).setCell (p := ⟨g, i * 6 + 1, none⟩) HGB.out (.int .i64 x.2.1.1)).setCell (p := ⟨g, i * 6 + 2, none⟩) HGB.out (.int .i64 x.2.1.2.1)).setCell (p := ⟨g, i * 6 + 3, none⟩) HGB.out (.int .i64 x.2.1.2.2.1)).setCell (p := ⟨g, i * 6 + 4, none⟩) HGB.out (.int .u64 x.2.1.2.2.2)).setCell (p := ⟨g, i * 6 + 5, none⟩) HGB.out (.bool x.2.2))
          generalize ((((((w3.setCell ⟨g, i * 6, none⟩ (.string x.1)).setCell ⟨g, i * 6 + 1, none⟩ (.int .i64 x.2.1.1)).setCell ⟨g, i * 6 + 2, none⟩ (.int .i64 x.2.1.2.1)).setCell ⟨g, i * 6 + 3, none⟩ (.int .i64 x.2.1.2.2.1)).setCell ⟨g, i * 6 + 4, none⟩ (.int .u64 x.2.1.2.2.2)).setCell ⟨g, i * 6 + 5, none⟩ (.bool x.2.2)) = w4 at R4 B4 ⊢
          clear y0 y1 y2 y3 y4 y5 f0 f1 f2 f3 f4 f5 c0' c1' c2' c3' c4' c5' cf'
          go_wp2_with fail
          go_roundw
          case rel =>
            obtain ⟨hij, hjn, hyl, htk, hdr⟩ := HJ.out
            refine ⟨i + 1, j + 1, ys.set i x, by go_num, by go_num, ⟨by omega, by omega, by rw [List.length_set]; exact hyl, ?_, ?_⟩, R4, B4⟩
            · rw [HTS.out, ← htk, List.take_succ_eq_append_getElem (by rw [List.length_set]; exact HIL.out), List.getElem_set_self, List.take_set_of_le (Nat.le_refl _)]
              rfl
            · rw [List.drop_set_of_lt (by omega), ← List.drop_drop, ← List.drop_drop, hdr]
          case measure => simp [intOf]; omega
      · have d1 : decide ((j : Int) < (xs.length : Int)) = false := decide_eq_false (by omega)
        have i0' : 0 ≤ (i : Int) := by omega
        have i1' : (i : Int) < (xs.length : Int) := by obtain ⟨hij, hjn, hyl, htk, hdr⟩ := HJ.out; omega
        obtain ⟨hij, hjn, hyl, htk, hdr⟩ := HJ.out
        have hcl := fun c' ty => slots_clear_ HR2.out i (by omega) c' ty
        rw [hyl] at hcl
        have HXL := Aside0.mk (Kd.R_reads' HR2.out).2.1
        have hxc : xs.length ≤ c := HXL.out
        have RF := Aside0.mk (R_frontK (enc := encS) kS_E (fun w b o x => kS_M w b o x) (fun _ => rfl) HR2.out i (by omega) (Builtin.zeroCells (Value.agg #[.string ⟨#[]⟩, .int .i64 0, .int .i64 0, .int .i64 0, .int .u64 0, .bool false]).cells (xs.length - i)).toList)
        have HGB := Aside0.mk (own_base (Kd.R_own HR2.out).choose_spec g rfl)
        have BF := Aside0.mk (HB.out.trans (Frm.below (B := base) (setCells_frm (Builtin.zeroCells (Value.agg #[.string ⟨#[]⟩, .int .i64 0, .int .i64 0, .int .i64 0, .int .u64 0, .bool false]).cells (xs.length - i)).toList wr g (i * 6)) (Nat.le_trans HBA.out HB.out.size) (fun t _ e => by rw [e]; exact HGB.out)))
        have HE := Aside0.mk (show ys.take i = xs.filter (fun x => !gn x) by rw [htk]; congr 1; exact List.take_of_length_le (by omega))
        generalize hL : (Builtin.zeroCells (Value.agg #[.string ⟨#[]⟩, .int .i64 0, .int .i64 0, .int .i64 0, .int .u64 0, .bool false]).cells (xs.length - i)).toList = L at hcl RF BF
        clear hL hij hjn hyl htk hdr
        go_upto_region 12 with (fail)
        have RG := Aside0.mk (show Kd.R kS 57 (wr.setCells g (i * 6) L) base (fun _ => True) (.slice (some ⟨g, 0, none⟩) i c) (ys.take i) from RF.out)
        generalize wr.setCells g (i * 6) L = wf at RG BF ⊢
        clear hcl RF
        go_wp2_with fail
        go_ret
        rw [← HE.out]
        exact ⟨_, rfl, RG.out, BF.out⟩
set_option maxHeartbeats 3200000 in
set_option maxRecDepth 100000 in
theorem slots_clone (A : Option Addr) (n c : Nat) (xs : List Slt) (w : World) (hc : Kd.C kS w A n xs) (hl : n ≤ c) (hn : n ≤ 1000000) :
    Calls Try.prog 39 #[.slice A n c] w fun e w' => ∃ v, e = .returned v ∧ Kd.R kS 57 w' w.heap.size (fun _ => True) v xs ∧ Below w.heap.size w w' := by
  have HC := Aside0.mk hc
  have HN := Aside0.mk hn
  clear hc hn
  have hnil := fun (w : World) (a : Option Addr) (n c : Nat) => Lib.run_eql_slice_nil (P := Try.prog) w 52 57 a n c 0 0 Try.underlying52
  cases A with
  | none =>
    go_enter Try.func39, Try.ntmps39
    go_wp2_with fail
    go_ret
    have hx : xs = [] := by
      obtain ⟨h1, _, h2⟩ := HC.out
      rcases Nat.eq_zero_or_pos n with h0 | h0
      · exact List.eq_nil_of_length_eq_zero (by omega)
      · obtain ⟨ad, e, _⟩ := h2 h0; cases e
    subst hx
    exact ⟨_, rfl, Kd.R_nil _ _ _ _ _, Below.refl _ _⟩
  | some a =>
    have H0 : Kd.R kS 57 (w.alloc (.cells #[] 57)) w.heap.size (fun _ => True) (.slice (some ⟨w.heap.size, 0, none⟩) 0 0) [] :=
      ⟨fun _ _ => trivial, [], ⟨by simp, .inr ⟨w.heap.size, 0, #[], rfl, Nat.le_refl _, blk_new w _, Nat.le_refl _, Nat.zero_le _, by simp, by simp⟩⟩, by simp, fun j p h => by simp at h⟩
    go_enter Try.func39, Try.ntmps39
    go_wp2_with (at_builtin; refine Kd.R_append_rows kS (w0 := w) w.heap.size rfl (.tmp 5) (.tmp 6) 52 57 (.agg #[.string ⟨#[]⟩, .int .i64 0, .int .i64 0, .int .i64 0, .int .u64 0, .bool false]) 56 rfl Try.underlying52 infoS rfl (by decide) (by decide) _ [] xs (some a) n c (fun _ => True) (fun _ => False) rfl rfl H0 (Kd.C_below HC.out (below_alloc (Below.refl _ _) _)) (fun x cs h => kS_KM h) (fun _ h => h.elim) (fun _ _ => trivial) (below_alloc (Below.refl _ _) _) (by simp) (by have := HN.out; simp; omega) ?_; intro v1 w1 hR hB hg hat; obtain ⟨A8, c8, rfl⟩ := Kd.R_slice hR; have HRR := Aside0.mk hR; have HBB := Aside0.mk hB; clear hR hB hg hat)
    go_ret
    exact ⟨_, rfl, by simpa using HRR.out, HBB.out⟩
end Go.Proofs.Ytcpjfpbfopkngaa.Thw
