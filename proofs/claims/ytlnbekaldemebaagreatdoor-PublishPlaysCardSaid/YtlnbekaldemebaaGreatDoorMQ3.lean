/- Several texts of mine in one (Ev13f, Ev13g, Ev13h, Ev13i, Ev13j, Ev13k, Ev13l). -/
import Derived.Test.YtlnbekaldemebaaGreatDoorMR3
import Derived.Sort.OwnSorted
/-! ## Layer 13 (publish): slices.Clone, IndexFunc, DeleteFunc at strings (a row of strings of one's own). -/
namespace Go.Proofs.YtlnbekaldemebaaGreatDoor.Thw
open Go Go.RowKit Go.Proofs.YtlnbekaldemebaaGreatDoorW.PrintWords Go.Proofs.YtlnbekaldemebaaGreatDoorW.PrintLast Go.Proofs.YtlnbekaldemebaaGreatDoorW.PrintMore
set_option linter.unusedVariables false
set_option linter.unusedSimpArgs false
theorem infoStr : (Tryz.prog.info? 9).map (fun i => (i.zero, i.size, i.bytes)) = some (some (.string ⟨#[]⟩), 1, 16) := by kernel_rfl
theorem str_E (w : World) (b : Nat) (ok : Nat → Prop) (x : ByteArray) (cs : List Value) (h : Kd.string.M w b ok x cs) : cs = [.string x] := h
theorem str_M (w : World) (b : Nat) (ok : Nat → Prop) (x : ByteArray) : Kd.string.M w b ok x [.string x] := rfl
set_option maxHeartbeats 3200000 in
set_option maxRecDepth 100000 in
theorem strs_clone (A : Option Addr) (n c : Nat) (xs : List ByteArray) (w : World) (hc : Kd.string.C w A n xs) (hl : n ≤ c) (hn : n ≤ 1000000) :
  Calls Tryz.prog 35 #[.slice A n c] w fun e w' => ∃ v, e = .returned v ∧ Kd.string.R 9 w' w.heap.size (fun _ => True) v xs ∧ Below w.heap.size w w' := by
 have HC := Aside0.mk hc
 have HN := Aside0.mk hn
 clear hc hn
 have hnil := fun (w : World) (a : Option Addr) (n c : Nat) => Lib.run_eql_slice_nil (P := Tryz.prog) w 22 9 a n c 0 0 Tryz.underlying22
 cases A with
 | none =>
  go_enter Tryz.func35, Tryz.ntmps35
  go_wp2_with fail
  go_ret
  have hx : xs = [] := by
   obtain ⟨h1, _, h2⟩ := HC.out
   rcases Nat.eq_zero_or_pos n with h0 | h0
   ·exact List.eq_nil_of_length_eq_zero (by omega)
   ·obtain ⟨ad, e, _⟩ := h2 h0; cases e
  subst hx
  exact ⟨_, rfl, Kd.R_nil _ _ _ _ _, Below.refl _ _⟩
 | some a =>
  have H0 : Kd.string.R 9 (w.alloc (.cells #[] 9)) w.heap.size (fun _ => True) (.slice (some ⟨w.heap.size, 0, none⟩) 0 0) [] :=
   Kd.R_of_own (own_lit_of (enc := Value.string) w w.heap.size 9 [] (Nat.le_refl _) (by decide)) (fun _ _ => trivial)
  go_enter Tryz.func35, Tryz.ntmps35
  go_wp2_with (at_builtin; refine Kd.R_append_row Value.string ⟨#[]⟩ (w0 := w) w.heap.size rfl (.tmp 5) (.tmp 6) 22 9 (.string ⟨#[]⟩) 16 rfl Tryz.underlying22 infoStr rfl (by decide) _ [] xs (some a) n c (fun _ => True) rfl rfl (fun _ _ => trivial) H0 (Kd.C_below HC.out (below_alloc (Below.refl _ _) _)) (below_alloc (Below.refl _ _) _) (by simp) (by have := HN.out; simp; omega) ?_; intro v1 w1 hR hB hg hat)
  go_ret
  exact ⟨_, rfl, hR, hB⟩
def strs_first (gn : ByteArray → Bool) (xs : List ByteArray) : Int := if xs.findIdx (fun x => gn x) < xs.length then (xs.findIdx (fun x => gn x) : Int) else -1
set_option maxHeartbeats 6400000 in
set_option maxRecDepth 100000 in
theorem strs_index (gn : ByteArray → Bool) (bm : Nat) (A : Option Addr) (c : Nat) (xs : List ByteArray) (w : World) (hc : Kd.string.C w A xs.length xs) (hn : xs.length ≤ 1000000)
  (hcl : ∀ x, x ∈ xs → ∀ W, Below w.heap.size w W → Calls Tryz.prog 29 #[.string x, .pointer (some ⟨bm, 0, none⟩)] W fun e w' => e = .returned (.bool (gn x)) ∧ Below W.heap.size W w') :
  Calls Tryz.prog 69 #[.slice A xs.length c, .func (.func 29) #[] #[.pointer (some ⟨bm, 0, none⟩)]] w fun e w' => e = .returned (.int .i64 (strs_first gn xs)) ∧ Below w.heap.size w w' := by
 have HC := Aside0.mk hc
 have HCL := Aside0.mk hcl
 clear hc hcl
 go_enter Tryz.func69, Tryz.ntmps69
 go_wp2_with fail
 go_loopw [8] (fun v8 wr => ∃ i : Nat, i ≤ xs.length ∧ v8 = .int .i64 i ∧ Aside0 (i ≤ xs.findIdx (fun x => gn x)) ∧ Aside0 (Below w.heap.size w wr)) (fun v8 _ => xs.length - (intOf v8).toNat)
 case atStart => exact ⟨0, by omega, rfl, ⟨Nat.zero_le _⟩, ⟨Below.refl _ _⟩⟩
 case round =>
  obtain ⟨i, hi, rfl, HI, HB⟩ := hrel
  by_cases hlt : i < xs.length
  ·have d1 : decide ((i : Int) < (xs.length : Int)) = true := decide_eq_true (by omega)
   obtain ⟨ad, e, x0⟩ := C_strAt (Kd.C_below HC.out HB.out) hlt
   cases e
   obtain ⟨x, hxe⟩ : ∃ x, xs[i] = x := ⟨_, rfl⟩
   rw [hxe] at x0
   have HX := Aside0.mk hxe
   have HXM := Aside0.mk (show x ∈ xs by rw [← hxe]; exact List.getElem_mem hlt)
   clear hxe
   have i0 : 0 ≤ (i : Int) := by omega
   have i1 : (i : Int) < (xs.length : Int) := by omega
   go_wp2_with fail
   refine (HCL.out x HXM.out _ HB.out).mono ?_
   rintro e w2 ⟨rfl, b2⟩
   have B2 := Aside0.mk (HB.out.trans (b2.mono HB.out.size))
   clear b2 x0
   cases hf : gn x with
   | true =>
    have hfi : xs.findIdx (fun x => gn x) = i := by
     rw [List.findIdx_eq hlt]
     refine ⟨by rw [HX.out]; exact hf, fun j hj => ?_⟩
     have := List.not_of_lt_findIdx (p := fun x : ByteArray => gn x) (xs := xs) (i := j) (by have := HI.out; omega)
     simpa using this
    have HR := Aside0.mk (show strs_first gn xs = (i : Int) by unfold strs_first; rw [hfi, if_pos hlt])
    clear hfi hf
    go_wp2_with fail
    go_ret
    rw [HR.out]
    exact ⟨rfl, B2.out⟩
   | false =>
    have HI2 := Aside0.mk (show i + 1 ≤ xs.findIdx (fun x => gn x) by
     rcases Nat.lt_or_ge i (xs.findIdx (fun x => gn x)) with h | h
     ·omega
     ·have he : xs.findIdx (fun x => gn x) = i := by have := HI.out; omega
      have := List.findIdx_getElem (p := fun x : ByteArray => gn x) (xs := xs) (w := by omega)
      simp only [he] at this
      rw [HX.out, hf] at this
      cases this)
    clear hf
    go_wp2_with fail
    go_roundw
    case rel => exact ⟨i + 1, by omega, by go_num, HI2, B2⟩
    case measure => simp [intOf]; omega
  ·have d1 : decide ((i : Int) < (xs.length : Int)) = false := decide_eq_false (by omega)
   have HR := Aside0.mk (show strs_first gn xs = -1 by unfold strs_first; rw [if_neg (by have := HI.out; omega)])
   go_wp2_with fail
   go_ret
   rw [HR.out]
   exact ⟨rfl, HB.out⟩
theorem strs_frozen {w : World} {base g n c : Nat} {ok : Nat → Prop} {ys : List ByteArray} (h : Kd.string.R 9 w base ok (.slice (some ⟨g, 0, none⟩) n c) ys) (o : Nat) : w.frozen? ⟨g, o, none⟩ = false := by
 obtain ⟨inner, hown⟩ := Kd.R_own h
 obtain ⟨cells, hc⟩ := own_typed hown g rfl
 simp [World.frozen?, hc]
theorem strs_wrap {n : Nat} (h : n < 1000000000) : wrap64 ((n : Int) + 1) = ((n + 1 : Nat) : Int) := by unfold wrap64; omega
theorem strs_at {w : World} {base g n c : Nat} {ok : Nat → Prop} {ys : List ByteArray} (h : Kd.string.R 9 w base ok (.slice (some ⟨g, 0, none⟩) n c) ys) (j : Nat) (x : ByteArray) (hx : ys[j]? = some x) :
  w.cell? ⟨g, j, none⟩ = some (.string x) := by
 have hj := (List.getElem?_eq_some_iff.1 hx).1
 have hx' : ys[j] = x := (List.getElem?_eq_some_iff.1 hx).2
 obtain ⟨e1, _, hC⟩ := Kd.R_reads' h
 have hC' : Kd.string.C w (some ⟨g, 0, none⟩) ys.length ys := hC
 obtain ⟨ad, e, x0⟩ := C_strAt hC' hj
 cases e
 rw [hx'] at x0
 have e2 : (⟨g, 0, none⟩ : Addr).add j = ⟨g, j, none⟩ := by
  have : (⟨g, 0, none⟩ : Addr).add j = ⟨g, 0 + j, none⟩ := by unfold Addr.add; split <;> simp_all
  rwa [Nat.zero_add] at this
 rw [e2] at x0
 exact x0
theorem strs_some {w : World} {base g n c : Nat} {ok : Nat → Prop} {ys : List ByteArray} (h : Kd.string.R 9 w base ok (.slice (some ⟨g, 0, none⟩) n c) ys) (o : Nat) (ho : o < ys.length) : (w.cell? ⟨g, o, none⟩).isSome = true := by
 rw [strs_at h o ys[o] (List.getElem?_eq_getElem ho)]
 rfl
theorem zeroStr' (w : World) : (zeroValue 9).run Tryz.prog w = .ok (.string ⟨#[]⟩) w := by kernel_rfl
theorem strs_clear {w : World} {base g n c : Nat} {ok : Nat → Prop} {ys : List ByteArray} (h : Kd.string.R 9 w base ok (.slice (some ⟨g, 0, none⟩) n c) ys) (i : Nat) (hi : i < ys.length) (c' ty : Nat) :
  (Builtin.clear_ #[22] ty #[.slice (some ⟨g, i, none⟩) (ys.length - i) c']).run Tryz.prog w = .ok (.tuple #[]) (w.setCells g i (Builtin.zeroCells (Value.string ⟨#[]⟩).cells (ys.length - i)).toList) := by
 have hsz : (Value.string ⟨#[]⟩).cells.size = 1 := rfl
 refine run_clear_row w 22 9 ty _ Tryz.underlying22 (fun w => zeroStr' w) ?_ g i (ys.length - i) c' (by omega) (fun j hj => ?_) (fun j hj => strs_frozen h _)
 ·intro u hu
  have : u = .string ⟨#[]⟩ := by simpa [Value.cells] using hu
  rw [this]
  rfl
 ·rw [hsz] at hj
  exact strs_some h _ (by omega)
set_option maxHeartbeats 12800000 in
set_option maxRecDepth 100000 in
theorem strs_delete (gn : ByteArray → Bool) (bm : Nat) (A : Option Addr) (c : Nat) (xs : List ByteArray) (base : Nat) (w : World) (hR : Kd.string.R 9 w base (fun _ => True) (.slice A xs.length c) xs) (hn : xs.length ≤ 1000000) (hbase : base ≤ w.heap.size)
  (hcl : ∀ x, x ∈ xs → ∀ W, Below base w W → Calls Tryz.prog 29 #[.string x, .pointer (some ⟨bm, 0, none⟩)] W fun e w' => e = .returned (.bool (gn x)) ∧ Below W.heap.size W w') :
  Calls Tryz.prog 34 #[.slice A xs.length c, .func (.func 29) #[] #[.pointer (some ⟨bm, 0, none⟩)]] w fun e w' => ∃ v, e = .returned v ∧ Kd.string.R 9 w' base (fun _ => True) v (xs.filter fun x => !gn x) ∧ Below base w w' := by
 have HR := Aside0.mk hR
 have HBA := Aside0.mk hbase
 have HCL := Aside0.mk hcl
 have HIX := Aside0.mk (strs_index gn bm A c xs w (Kd.R_reads' hR).2.2 hn (fun x hx W hW => hcl x hx W (hW.mono hbase)))
 clear hR hbase hcl
 go_enter Tryz.func34, Tryz.ntmps34
 go_wp2_with fail
 refine HIX.out.mono ?_
 rintro e w1 ⟨rfl, b1⟩
 have R1 := Aside0.mk (Kd.R_below HR.out b1)
 have B1 := Aside0.mk (b1.mono HBA.out)
 clear b1
 by_cases hf : xs.findIdx (fun x => gn x) < xs.length
 case neg =>
  have e1 : strs_first gn xs = -1 := by unfold strs_first; rw [if_neg hf]
  have HF := Aside0.mk (show xs.filter (fun x => !gn x) = xs by
   rw [List.filter_eq_self]
   intro x hx
   have h1 : xs.findIdx (fun x => gn x) = xs.length := by have := List.findIdx_le_length (p := fun x : ByteArray => gn x) (xs := xs); omega
   have := List.findIdx_eq_length.1 h1 x hx
   simpa using this)
  rw [e1]
  clear e1 hf
  go_wp2_with fail
  go_ret
  rw [HF.out]
  exact ⟨_, rfl, R1.out, B1.out⟩
 obtain ⟨i0, hi0⟩ : ∃ i0, xs.findIdx (fun x => gn x) = i0 := ⟨_, rfl⟩
 have e1 : strs_first gn xs = (i0 : Int) := by unfold strs_first; rw [if_pos hf, hi0]
 rw [e1]
 rw [hi0] at hf
 have HF := Aside0.mk (show xs.take i0 = (xs.take (i0 + 1)).filter (fun x => !gn x) by
  rw [List.take_succ_eq_append_getElem hf, List.filter_append]
  have h1 : gn xs[i0] = true := by
   have := List.findIdx_getElem (p := fun x : ByteArray => gn x) (xs := xs) (w := by omega)
   simpa only [hi0] using this
  have h2 : (xs.take i0).filter (fun x => !gn x) = xs.take i0 := by
   rw [List.filter_eq_self]
   intro x hx
   obtain ⟨j, hj, rfl⟩ := List.getElem_of_mem hx
   rw [List.length_take] at hj
   have := List.not_of_lt_findIdx (p := fun x : ByteArray => gn x) (xs := xs) (i := j) (by omega)
   rw [List.getElem_take]
   simpa using this
  rw [h2]
  simp [h1])
 have hm1 : ((i0 : Int) == -1) = false := beq_eq_false_iff_ne.mpr (by omega)
 have HLT := Aside0.mk hf
 clear e1 hi0 hf
 cases A with
 | none =>
  exfalso
  have h1 := (Kd.R_reads' R1.out).2.2
  obtain ⟨ad, e, _⟩ := C_strAt h1 HLT.out
  cases e
 | some ad =>
  have hz : ad = ⟨ad.block, 0, none⟩ := by
   obtain ⟨inner, h1, h2⟩ := Kd.R_own R1.out
   rcases h2 with ⟨h3, _⟩ | ⟨g, cap, cur, h3, _⟩
   ·cases h3
   ·injection h3 with h4
    injection h4 with h4
    rw [h4]
  obtain ⟨g, hg⟩ : ∃ g, ad.block = g := ⟨_, rfl⟩
  rw [hg] at hz
  subst hz
  clear hg
  go_wp2_with fail
  go_loopw [5, 6] (fun v5 v6 wr => ∃ (i j : Nat) (ys : List ByteArray), v5 = .int .i64 i ∧ v6 = .int .i64 j ∧ Aside0 (i < j ∧ j ≤ xs.length ∧ ys.length = xs.length ∧ ys.take i = (xs.take j).filter (fun x => !gn x) ∧ ys.drop j = xs.drop j) ∧ Aside0 (Kd.string.R 9 wr base (fun _ => True) (.slice (some ⟨g, 0, none⟩) xs.length c) ys) ∧ Aside0 (Below base w wr)) (fun _ v6 _ => xs.length - (intOf v6).toNat)
  case atStart =>
   have hb0 := HLT.out
   exact ⟨i0, i0 + 1, xs, rfl, by rw [strs_wrap (by omega)], ⟨by omega, by have := HLT.out; omega, rfl, HF.out, rfl⟩, R1, B1⟩
  case round =>
   obtain ⟨i, j, ys, rfl, rfl, HJ, HR2, HB⟩ := hrel
   by_cases hlt : j < xs.length
   ·have d1 : decide ((j : Int) < (xs.length : Int)) = true := decide_eq_true (by omega)
    obtain ⟨hij, hjn, hyl, htk, hdr⟩ := HJ.out
    obtain ⟨x, hxe⟩ : ∃ x, xs[j] = x := ⟨_, rfl⟩
    have hy : ys[j]? = some x := by
     have h1 := congrArg (fun l => l[0]?) hdr
     simp only [List.getElem?_drop, Nat.add_zero] at h1
     rw [h1, List.getElem?_eq_getElem hlt, hxe]
    have x0 := strs_at HR2.out j x hy
    have HXM := Aside0.mk (show x ∈ xs by rw [← hxe]; exact List.getElem_mem hlt)
    have HTS := Aside0.mk (show (xs.take (j + 1)).filter (fun x => !gn x) = (xs.take j).filter (fun x => !gn x) ++ (if gn x then [] else [x]) by
     rw [List.take_succ_eq_append_getElem hlt, List.filter_append, hxe]
     cases hb : gn x <;> simp [hb])
    have i0' : 0 ≤ (j : Int) := by omega
    have i1' : (j : Int) < (xs.length : Int) := by omega
    clear hxe hy hij hjn hyl htk hdr
    go_wp2_with fail
    refine (HCL.out x HXM.out _ HB.out).mono ?_
    rintro e w3 ⟨rfl, b3⟩
    have R3 := Aside0.mk (Kd.R_below HR2.out b3)
    have B3 := Aside0.mk (HB.out.trans (b3.mono (Nat.le_trans HBA.out HB.out.size)))
    clear b3 x0 HR2 HB
    cases hf : gn x with
    | true =>
     rw [hf] at HTS
     clear hf
     go_wp2_with fail
     go_roundw
     case rel =>
      obtain ⟨hij, hjn, hyl, htk, hdr⟩ := HJ.out
      refine ⟨i, j + 1, ys, rfl, by go_num, ⟨by omega, by omega, hyl, by rw [HTS.out, htk]; simp, ?_⟩, R3, B3⟩
      rw [← List.drop_drop, ← List.drop_drop, hdr]
     case measure => simp [intOf]; omega
    | false =>
     rw [hf] at HTS
     have hil : i < ys.length := by obtain ⟨hij, hjn, hyl, htk, hdr⟩ := HJ.out; omega
     obtain ⟨y, hye⟩ : ∃ y, ys[i]? = some y := ⟨_, List.getElem?_eq_getElem hil⟩
     have y0 := strs_at R3.out i y hye
     have f0 := strs_frozen R3.out i
     have i0'' : 0 ≤ (i : Int) := by omega
     have i1'' : (i : Int) < (xs.length : Int) := by obtain ⟨hij, hjn, hyl, htk, hdr⟩ := HJ.out; omega
     have HIL := Aside0.mk hil
     clear hil hye
     have HFX := Aside0.mk hf
     clear hf
     go_upto_region 10 with (fail)
     have R4 := Aside0.mk (show Kd.string.R 9 (w3.setCell ⟨g, i, none⟩ (.string x)) base (fun _ => True) (.slice (some ⟨g, 0, none⟩) xs.length c) (ys.set i x) by
      have := R_setK (enc := fun x => [Value.string x]) str_E str_M (fun _ => rfl) R3.out i HIL.out x
      rw [show i * Kd.string.sz = i from Nat.mul_one i] at this
      exact this)
     have HGB := Aside0.mk (own_base (Kd.R_own R3.out).choose_spec g rfl)
     have B4 := Aside0.mk (B3.out.setCell (p := ⟨g, i, none⟩) HGB.out (.string x))
     generalize w3.setCell ⟨g, i, none⟩ (.string x) = w4 at R4 B4 ⊢
     clear y0 f0
     go_wp2_with fail
     go_roundw
     case rel =>
      obtain ⟨hij, hjn, hyl, htk, hdr⟩ := HJ.out
      refine ⟨i + 1, j + 1, ys.set i x, by go_num, by go_num, ⟨by omega, by omega, by rw [List.length_set]; exact hyl, ?_, ?_⟩, R4, B4⟩
      ·rw [HTS.out, ← htk, List.take_succ_eq_append_getElem (by rw [List.length_set]; exact HIL.out), List.getElem_set_self, List.take_set_of_le (Nat.le_refl _)]
       rfl
      ·rw [List.drop_set_of_lt (by omega), ← List.drop_drop, ← List.drop_drop, hdr]
     case measure => simp [intOf]; omega
   ·have d1 : decide ((j : Int) < (xs.length : Int)) = false := decide_eq_false (by omega)
    have i0' : 0 ≤ (i : Int) := by omega
    have i1' : (i : Int) < (xs.length : Int) := by obtain ⟨hij, hjn, hyl, htk, hdr⟩ := HJ.out; omega
    obtain ⟨hij, hjn, hyl, htk, hdr⟩ := HJ.out
    have hcl := fun c' ty => strs_clear HR2.out i (by omega) c' ty
    rw [hyl] at hcl
    have HXL := Aside0.mk (Kd.R_reads' HR2.out).2.1
    have hxc : xs.length ≤ c := HXL.out
    have RF := Aside0.mk (show Kd.string.R 9 (wr.setCells g i (Builtin.zeroCells (Value.string ⟨#[]⟩).cells (xs.length - i)).toList) base (fun _ => True) (.slice (some ⟨g, 0, none⟩) i c) (ys.take i) by
     have := R_frontK (enc := fun x => [Value.string x]) str_E str_M (fun _ => rfl) HR2.out i (by omega) (Builtin.zeroCells (Value.string ⟨#[]⟩).cells (xs.length - i)).toList
     rw [show i * Kd.string.sz = i from Nat.mul_one i] at this
     exact this)
    have HGB := Aside0.mk (own_base (Kd.R_own HR2.out).choose_spec g rfl)
    have BF := Aside0.mk (HB.out.trans (Frm.below (B := base) (setCells_frm (Builtin.zeroCells (Value.string ⟨#[]⟩).cells (xs.length - i)).toList wr g i) (Nat.le_trans HBA.out HB.out.size) (fun t _ e => by rw [e]; exact HGB.out)))
    have HE := Aside0.mk (show ys.take i = xs.filter (fun x => !gn x) by rw [htk]; congr 1; exact List.take_of_length_le (by omega))
    generalize hL : (Builtin.zeroCells (Value.string ⟨#[]⟩).cells (xs.length - i)).toList = L at hcl RF BF
    clear hL hij hjn hyl htk hdr
    go_upto_region 12 with (fail)
    have RG := Aside0.mk (show Kd.string.R 9 (wr.setCells g i L) base (fun _ => True) (.slice (some ⟨g, 0, none⟩) i c) (ys.take i) from RF.out)
    generalize wr.setCells g i L = wf at RG BF ⊢
    clear hcl RF
    go_wp2_with fail
    go_ret
    rw [← HE.out]
    exact ⟨_, rfl, RG.out, BF.out⟩
end Go.Proofs.YtlnbekaldemebaaGreatDoor.Thw
/-! ## Layer 13 (publish): slices.Sort, slices.Compact at strings; number. -/
namespace Go.Proofs.YtlnbekaldemebaaGreatDoor.Thw
open Go Go.RowKit Go.Proofs.YtlnbekaldemebaaGreatDoorW.PrintWords Go.Proofs.YtlnbekaldemebaaGreatDoorW.PrintLast Go.Proofs.YtlnbekaldemebaaGreatDoorW.PrintMore
set_option linter.unusedVariables false
set_option linter.unusedSimpArgs false
theorem R_strs_sorted {w : World} {base : Nat} {v : Value} {ys : List ByteArray} (h : Kd.string.R 9 w base (fun _ => True) v ys) (hx : 0 < ys.length) :
  ∃ g c, v = .slice (some ⟨g, 0, none⟩) ys.length c ∧ g < w.heap.size ∧ base ≤ g ∧ Go.Sort.Holds encStr w g 0 (ys.map fun s => s.data.toList).toArray ∧
   ∀ n os (ts : List (List UInt8)), ts.length = ys.length → Kd.string.R 9 (Go.Sort.grow (Go.Sort.putRow encStr (Go.Sort.ahead w n) g 0 ts.toArray) os) base (fun _ => True) v (ts.map fun x => (⟨x.toArray⟩ : ByteArray)) := by
 obtain ⟨hlen, hown⟩ := Kd.own_of_R h
 rcases hown with ⟨hv, h0⟩ | ⟨g, cap, cur, rfl, hb, hg, hc1, hc2, hcs, htk⟩
 ·omega
 ·refine ⟨g, cap, rfl, blk_lt hg, hb, holds_of_block hg (by simpa [encs, encStr, Function.comp_def] using htk), fun n os ts hts => ?_⟩
  have := ownsRow_sorted (n := n) (os := os) (ts := ts) (ss := ys.map fun s => s.data.toList) (by simpa using hts) hb hg (by simpa using hc1) hc2 (by simpa using hcs)
  rw [List.length_map] at this
  refine Kd.R_of_own (enc := Value.string) ?_ (fun _ _ => trivial)
  have e : encs Value.string (ts.map fun x => (⟨x.toArray⟩ : ByteArray)) = ts.map encStr := by simp [encs, encStr, Function.comp_def]
  rw [e, List.length_map, hts]
  exact this
theorem strs_sort (A : Option Addr) (c : Nat) (xs : List ByteArray) (base : Nat) (w : World) (hR : Kd.string.R 9 w base (fun _ => True) (.slice A xs.length c) xs) (hn : xs.length ≤ 1000000) (hbase : base ≤ w.heap.size) :
  Calls Tryz.prog 36 #[.slice A xs.length c] w fun e w' => e = .returned (.tuple #[]) ∧ Kd.string.R 9 w' base (fun _ => True) (.slice A xs.length c) (sorted xs) ∧ Below base w w' := by
 by_cases hy0 : xs.length = 0
 ·obtain rfl := List.eq_nil_of_length_eq_zero hy0
  refine (show Calls Tryz.prog 36 _ _ _ from AnyM.slices_Sort_string_none Tryz.sort36 A c _).mono ?_
  rintro e w5 ⟨rfl, rfl⟩
  exact ⟨rfl, by simpa [sorted] using hR, Below.refl _ _⟩
 ·obtain ⟨g, c', hv, hg, hb, hH, hS⟩ := R_strs_sorted hR (by omega)
  injection hv with hv1 _ hv3
  subst hv1 hv3
  have hz : (xs.map fun s => s.data.toList).length = xs.length := List.length_map _
  have := AnyM.slices_Sort_string Tryz.sort36 g 0 c (xs.map fun s => s.data.toList) w hH hg (by rw [hz]; omega)
  rw [hz] at this
  refine (show Calls Tryz.prog 36 _ _ _ from this).mono ?_
  rintro e w5 ⟨rfl, n5, os, rfl⟩
  have e5 : ((xs.map fun s => s.data.toList).mergeSort fun x y => decide (x ≤ y)) = (xs.map fun s => s.data.toList).mergeSort leB := mergeSort_of_perm (List.Perm.refl _)
  have hts : ((xs.map fun s => s.data.toList).mergeSort fun x y => decide (x ≤ y)).length = xs.length := by rw [List.length_mergeSort, hz]
  have es : ((xs.map fun s => s.data.toList).mergeSort fun x y => decide (x ≤ y)).map (fun x => (⟨x.toArray⟩ : ByteArray)) = sorted xs := by rw [e5]; rfl
  generalize ((xs.map fun s => s.data.toList).mergeSort fun x y => decide (x ≤ y)) = ts at hts es ⊢
  have h5 := hS n5 os ts hts
  rw [es] at h5
  exact ⟨rfl, h5, (Below.refl base w).grown (grownBy_sorted (n := n5) (os := os) ts.toArray) hbase (fun k e => by cases e; exact hb)⟩
end Go.Proofs.YtlnbekaldemebaaGreatDoor.Thw
/-! ## Layer 13 (publish): number; slices.Compact at strings. -/
namespace Go.Proofs.YtlnbekaldemebaaGreatDoor.Thw
open Go Go.RowKit Go.Proofs.YtlnbekaldemebaaGreatDoor.Print Go.Proofs.YtlnbekaldemebaaGreatDoorW.PrintWords Go.Proofs.YtlnbekaldemebaaGreatDoorW.PrintLast Go.Proofs.YtlnbekaldemebaaGreatDoorW.PrintMore
set_option linter.unusedVariables false
set_option linter.unusedSimpArgs false
def numStep (n : Int) (b : UInt8) : Int := min (wrap64 (wrap64 (wrap64 (10 * n) + (b.toNat : Int)) - 48)) 999999
def numN (s : ByteArray) : Int := ((L s).drop 1).foldl numStep 0
def numF (s : ByteArray) : Int × Bool := (numN s, if s.toList = [] then false else (obj (numN s)).toList == s.toList)
theorem numStep_rng (n : Int) (b : UInt8) : -9223372036854775808 ≤ numStep n b ∧ numStep n b ≤ 9223372036854775807 := by
 have := wrap64_rng (wrap64 (wrap64 (10 * n) + (b.toNat : Int)) - 48)
 unfold numStep
 omega
theorem foldl_rng : ∀ (l : List UInt8) (n : Int), -9223372036854775808 ≤ n ∧ n ≤ 9223372036854775807 → -9223372036854775808 ≤ l.foldl numStep n ∧ l.foldl numStep n ≤ 9223372036854775807
 | [], n, h => h
 | b :: l, n, h => by rw [List.foldl_cons]; exact foldl_rng l _ (numStep_rng n b)
theorem numN_rng (s : ByteArray) : -9223372036854775808 ≤ numN s ∧ numN s ≤ 9223372036854775807 := foldl_rng _ _ (by omega)
theorem num_snoc {l : List UInt8} {i : Nat} (h1 : 1 ≤ i) (h : i < l.length) : (l.take (i + 1)).drop 1 = (l.take i).drop 1 ++ [l[i]] := by
 rw [List.take_succ_eq_append_getElem h, List.drop_append_of_le_length (by rw [List.length_take]; omega)]
set_option maxHeartbeats 6400000 in
set_option maxRecDepth 100000 in
theorem pub_number.calls (s : ByteArray) (hs : s.size ≤ 1000000) (w : World) (hL : LaidW w) :
  Calls Tryz.prog 31 #[.string s] w fun e w' => e = .returned (.tuple #[.int .i64 (numF s).1, .bool (numF s).2]) ∧ Below w.heap.size w w' := by
 have HLW := Aside0.mk hL
 clear hL
 have hsl : (L s).length = s.size := rfl
 go_enter Tryz.func31, Tryz.ntmps31
 go_wp2_with fail
 go_loopw [4, 5] (fun v4 v5 wr => ∃ (i : Nat) (n : Int), v5 = .int .i64 (i : Nat) ∧ v4 = .int .i64 n ∧ 1 ≤ i ∧ Aside0 (n = (((L s).take i).drop 1).foldl numStep 0) ∧ Aside0 (i ≤ s.size ∨ i = 1) ∧ wr = w) (fun _ v5 _ => s.size - (intOf v5).toNat)
 case atStart => exact ⟨1, 0, rfl, rfl, Nat.le_refl _, ⟨by rw [List.drop_take]; rfl⟩, ⟨Or.inr rfl⟩, rfl⟩
 case round =>
  obtain ⟨i, n, rfl, rfl, hi1, HN, HI, rfl⟩ := hrel
  by_cases hlt : i < s.size
  ·have d1 : decide ((i : Int) < (s.size : Int)) = true := decide_eq_true (by omega)
   go_wp2_with fail
   go_roundw
   case rel =>
    refine ⟨i + 1, _, by go_num, rfl, by omega, ⟨?_⟩, ⟨Or.inl (by omega)⟩, trivial⟩
    rw [HN.out, num_snoc hi1 (by rw [hsl]; exact hlt), List.foldl_append]
    show _ = numStep _ _
    unfold numStep
    rw [wrap64_in (n := (s[i].toNat : Int)) (by omega) (by have := s[i].toNat_lt; omega)]
    rfl
   case measure => simp [intOf]; omega
  ·have d1 : decide ((i : Int) < (s.size : Int)) = false := decide_eq_false (by omega)
   have HNN := Aside0.mk (show n = numN s by
    rw [HN.out]
    unfold numN
    rcases HI.out with h | h
    ·rw [List.take_of_length_le (by rw [hsl]; omega)]
    ·subst h
     rw [List.drop_take, List.drop_of_length_le (show (L s).length ≤ 1 by rw [hsl]; omega)]
     rfl)
   by_cases hse : s.toList = []
   ·have HSE := Aside0.mk hse
    have hse' : s.toList.isEmpty = true := by rw [hse]; rfl
    go_wp2_with fail
    go_ret2
    unfold numF
    rw [if_pos HSE.out, HNN.out]
    exact ⟨rfl, Below.refl _ _⟩
   ·have HSE := Aside0.mk hse
    have hse' : s.toList.isEmpty = false := by cases h : s.toList with
     | nil => exact absurd h hse
     | cons a l => rfl
    go_wp2_with fail
    refine (man_Object.calls n (by rw [HNN.out]; exact numN_rng s) _ HLW.out).mono ?_
    rintro e w2 ⟨rfl, b2⟩
    have B2 := Aside0.mk b2
    have HF := Aside0.mk (show numF s = (n, ((obj n).toList == s.toList)) by unfold numF; rw [if_neg HSE.out, HNN.out])
    clear b2
    go_wp2_with fail
    go_ret2
    rw [HF.out]
    exact ⟨rfl, B2.out⟩
/-! ### slices.Compact -/
def ddS (acc : List ByteArray) (x : ByteArray) : List ByteArray := if acc.getLast? = some x then acc else acc ++ [x]
/-- Without what equals the one ahead of it. -/
def dd (l : List ByteArray) : List ByteArray := l.foldl ddS []
theorem dd_snoc (l : List ByteArray) (x : ByteArray) : dd (l ++ [x]) = ddS (dd l) x := by unfold dd; rw [List.foldl_append]; rfl
theorem dd_last' : ∀ (l acc : List ByteArray), (l.foldl ddS acc).getLast? = (acc ++ l).getLast?
 | [], acc => by simp
 | x :: l, acc => by
  rw [List.foldl_cons, dd_last' l]
  have h : (ddS acc x).getLast? = some x := by
   unfold ddS
   split
   ·assumption
   ·simp
  rw [List.getLast?_append, h, List.getLast?_append, List.getLast?_cons]
  cases hl : l.getLast? <;> simp
theorem dd_last (l : List ByteArray) : (dd l).getLast? = l.getLast? := dd_last' l []
theorem dd_snoc2 {l : List ByteArray} {a x : ByteArray} (h : l.getLast? = some a) : dd (l ++ [x]) = if a = x then dd l else dd l ++ [x] := by
 rw [dd_snoc]
 unfold ddS
 rw [dd_last, h]
 by_cases he : a = x
 ·rw [if_pos (by rw [he]), if_pos he]
 ·rw [if_neg (fun e => he (Option.some.inj e)), if_neg he]
end Go.Proofs.YtlnbekaldemebaaGreatDoor.Thw
/-! ## Layer 13 (publish): slices.Compact at strings, walked. -/
namespace Go.Proofs.YtlnbekaldemebaaGreatDoor.Thw
open Go Go.RowKit Go.Proofs.YtlnbekaldemebaaGreatDoor.Print Go.Proofs.YtlnbekaldemebaaGreatDoorW.PrintWords Go.Proofs.YtlnbekaldemebaaGreatDoorW.PrintLast Go.Proofs.YtlnbekaldemebaaGreatDoorW.PrintMore
set_option linter.unusedVariables false
set_option linter.unusedSimpArgs false
theorem dd_short {xs : List ByteArray} (h : xs.length < 2) : dd xs = xs := by
 match xs, h with
 | [], _ => rfl
 | [a], _ => rfl
theorem take_last {xs : List ByteArray} {m : Nat} (h : m < xs.length) : (xs.take (m + 1)).getLast? = some xs[m] := by
 rw [List.take_succ_eq_append_getElem h, List.getLast?_append]
 simp
theorem dd_take {xs : List ByteArray} {m : Nat} (h : m + 1 < xs.length) : dd (xs.take (m + 2)) = if xs[m] = xs[m + 1] then dd (xs.take (m + 1)) else dd (xs.take (m + 1)) ++ [xs[m + 1]] := by
 rw [show m + 2 = (m + 1) + 1 from rfl, List.take_succ_eq_append_getElem h, dd_snoc2 (take_last (by omega))]
theorem drop_more {ys xs : List ByteArray} {q : Nat} (h : ys.drop q = xs.drop q) : ys.drop (q + 1) = xs.drop (q + 1) := by
 have := congrArg (List.drop 1) h
 rwa [List.drop_drop, List.drop_drop] at this
set_option maxHeartbeats 12800000 in
set_option maxRecDepth 100000 in
theorem strs_compact (A : Option Addr) (c : Nat) (xs : List ByteArray) (base : Nat) (w : World) (hR : Kd.string.R 9 w base (fun _ => True) (.slice A xs.length c) xs) (hn : xs.length ≤ 1000000) (hbase : base ≤ w.heap.size) :
  Calls Tryz.prog 37 #[.slice A xs.length c] w fun e w' => ∃ v, e = .returned v ∧ Kd.string.R 9 w' base (fun _ => True) v (dd xs) ∧ Below base w w' := by
 have HR := Aside0.mk hR
 have HBA := Aside0.mk hbase
 clear hR hbase
 by_cases h2 : xs.length < 2
 ·have d1 : decide ((xs.length : Int) < 2) = true := decide_eq_true (by omega)
  have HD := Aside0.mk (dd_short h2)
  go_enter Tryz.func37, Tryz.ntmps37
  go_wp2_with fail
  go_ret
  rw [HD.out]
  exact ⟨_, rfl, HR.out, Below.refl _ _⟩
 have d1 : decide ((xs.length : Int) < 2) = false := decide_eq_false (by omega)
 cases A with
 | none =>
  exfalso
  obtain ⟨ad, e, _⟩ := C_strAt (Kd.R_reads' HR.out).2.2 (show 0 < xs.length by omega)
  cases e
 | some ad =>
  have hz : ad = ⟨ad.block, 0, none⟩ := by
   obtain ⟨inner, h1, h2⟩ := Kd.R_own HR.out
   rcases h2 with ⟨h3, _⟩ | ⟨g, cap, cur, h3, _⟩
   ·cases h3
   ·injection h3 with h4
    injection h4 with h4
    rw [h4]
  obtain ⟨g, hg⟩ : ∃ g, ad.block = g := ⟨_, rfl⟩
  rw [hg] at hz
  subst hz
  clear hg
  go_enter Tryz.func37, Tryz.ntmps37
  go_wp2_with fail
  go_loopw [3] (fun v3 wr => ∃ m : Nat, v3 = .int .i64 ((m : Int) + 1) ∧ m + 1 ≤ xs.length ∧ Aside0 (dd (xs.take (m + 1)) = xs.take (m + 1)) ∧ Aside0 (Kd.string.R 9 wr base (fun _ => True) (.slice (some ⟨g, 0, none⟩) xs.length c) xs) ∧ Aside0 (Below base w wr)) (fun v3 _ => xs.length - (intOf v3).toNat)
  case atStart => exact ⟨0, rfl, by omega, ⟨dd_short (by rw [List.length_take]; omega)⟩, HR, ⟨Below.refl _ _⟩⟩
  case round =>
   obtain ⟨m, rfl, hm, HD, HR1, HB1⟩ := hrel
   by_cases hlt : m + 1 < xs.length
   ·have d2 : decide ((m : Int) + 1 < (xs.length : Int)) = true := decide_eq_true (by omega)
    go_wp2_with fail
    refine region_still (by kernel_rfl) (by kernel_rfl) (fun W => Kd.string.R 9 W base (fun _ => True) (.slice (some ⟨g, 0, none⟩) xs.length c) xs ∧ Below base w W) ⟨Kd.R_below HR1.out (below_drew (Below.refl _ _)), HB1.out.drew⟩ ?_
    rintro w2 ⟨r2, b2⟩
    have R2 := Aside0.mk r2
    have B2 := Aside0.mk b2
    have x0 := strs_at r2 m xs[m] (List.getElem?_eq_getElem (by omega))
    have x1 := strs_at r2 (m + 1) xs[m + 1] (List.getElem?_eq_getElem hlt)
    have HDT := Aside0.mk (dd_take hlt)
    have HTT := Aside0.mk (show xs.take (m + 2) = xs.take (m + 1) ++ [xs[m + 1]] from List.take_succ_eq_append_getElem hlt)
    generalize xs[m] = a at x0 HDT
    generalize xs[m + 1] = b at x1 HDT HTT
    clear r2 b2 HR1 HB1
    have i0 : 0 ≤ (m : Int) + 1 := by omega
    have i1 : (m : Int) + 1 < (xs.length : Int) := by omega
    have i2 : (m : Int) < (xs.length : Int) := by omega
    have hwm : IntKind.i64.wrap (m : Int) = (m : Int) := IntWalk.i64_in m (by omega)
    repeat still_step
    refine wpStill_nil ?_
    clear x0 x1
    obtain ⟨bq, hbq⟩ : ∃ q, (b.toList == a.toList) = q := ⟨_, rfl⟩
    rw [hbq]
    by_cases hab : a = b
    case neg =>
     obtain rfl : bq = false := by rw [← hbq]; exact beq_eq_false_iff_ne.2 (fun e => hab (WideShapes.bytes_inj (by rw [Lib.toList_data, Lib.toList_data] at e; exact e)).symm)
     clear hbq
     rw [if_neg hab, HD.out] at HDT
     have HDT2 := Aside0.mk (show dd (xs.take (m + 2)) = xs.take (m + 2) by
      rw [HDT.out, HTT.out])
     go_wp2_with fail
     go_roundw
     case rel => exact ⟨m + 1, by go_num, by omega, HDT2, R2, B2⟩
     case measure => simp [intOf]; omega
    case pos =>
     obtain rfl : bq = true := by rw [← hbq, hab]; exact beq_self_eq_true _
     clear hbq
     rw [if_pos hab, HD.out] at HDT
     have hxc : xs.length ≤ c := (Kd.R_reads' R2.out).2.1
     clear hab
     go_upto_region 9 with (fail)
     have HXC := Aside0.mk hxc
     have HML := Aside0.mk hlt
     obtain ⟨n2, hn2⟩ : ∃ n2, xs.length - (m + 1) = n2 := ⟨_, rfl⟩
     obtain ⟨c2, hc2⟩ : ∃ c2, c - (m + 1) = c2 := ⟨_, rfl⟩
     rw [hn2, hc2]
     have HN2 := Aside0.mk (show m + 1 + n2 = xs.length by omega)
     clear hn2 hc2 hxc hlt i0 i1 i2 hwm d2
     go_loopw [3, 5] (fun v3 v5 wr => ∃ (k p : Nat) (ys : List ByteArray), v3 = .int .i64 (k : Nat) ∧ v5 = .int .i64 ((p : Int) + 1) ∧ Aside0 (m + 1 ≤ k ∧ k ≤ m + 1 + p ∧ p + 1 ≤ n2 ∧ ys.length = xs.length ∧ ys.take k = dd (xs.take (m + 1 + (p + 1))) ∧ ys.drop (m + 1 + p) = xs.drop (m + 1 + p)) ∧ Aside0 (Kd.string.R 9 wr base (fun _ => True) (.slice (some ⟨g, 0, none⟩) xs.length c) ys) ∧ Aside0 (Below base w wr)) (fun _ v5 _ => n2 - (intOf v5).toNat)
     case atStart => exact ⟨m + 1, 0, xs, rfl, rfl, ⟨Nat.le_refl _, Nat.le_refl _, by have := HN2.out; have := HML.out; omega, rfl, HDT.out.symm, rfl⟩, R2, B2⟩
     case round =>
      obtain ⟨k, p, ys, rfl, rfl, HJ, HR3, HB3⟩ := hrel
      by_cases hlt : p + 1 < n2
      ·have d3 : decide ((p : Int) + 1 < (n2 : Int)) = true := decide_eq_true (by omega)
       have hq1 : m + 1 + p + 1 < xs.length := by have := HN2.out; omega
       have HDT3 := Aside0.mk (dd_take hq1)
       have y0 : ys[m + 1 + p]? = some xs[m + 1 + p] := by
        have h1 := congrArg (fun l => l[0]?) HJ.out.2.2.2.2.2
        simp only [List.getElem?_drop, Nat.add_zero] at h1
        rw [h1, List.getElem?_eq_getElem (by omega)]
       have y1 : ys[m + 1 + p + 1]? = some xs[m + 1 + p + 1] := by
        have h1 := congrArg (fun l => l[1]?) HJ.out.2.2.2.2.2
        simp only [List.getElem?_drop] at h1
        rw [h1, List.getElem?_eq_getElem hq1]
       go_wp2_with fail
       refine region_still (by kernel_rfl) (by kernel_rfl) (fun W => Kd.string.R 9 W base (fun _ => True) (.slice (some ⟨g, 0, none⟩) xs.length c) ys ∧ Below base w W) ⟨Kd.R_below HR3.out (below_drew (Below.refl _ _)), HB3.out.drew⟩ ?_
       rintro w4 ⟨r4, b4⟩
       have R4 := Aside0.mk r4
       have B4 := Aside0.mk b4
       have x0 := strs_at r4 (m + 1 + p) _ y0
       have x1 := strs_at r4 (m + 1 + (p + 1)) _ y1
       generalize xs[m + 1 + p] = a' at x0 HDT3
       generalize hbb : xs[m + 1 + p + 1] = b' at x1 HDT3
       clear r4 b4 HR3 HB3 y0 y1 hbb
       have i0 : 0 ≤ (p : Int) + 1 := by omega
       have i1 : (p : Int) + 1 < (n2 : Int) := by omega
       have i2 : (p : Int) < (n2 : Int) := by omega
       have hwm : IntKind.i64.wrap (p : Int) = (p : Int) := IntWalk.i64_in p (by have := HN2.out; omega)
       repeat still_step
       refine wpStill_nil ?_
       obtain ⟨bq, hbq⟩ : ∃ q, (b'.toList == a'.toList) = q := ⟨_, rfl⟩
       rw [hbq]
       by_cases hab : a' = b'
       ·obtain rfl : bq = true := by rw [← hbq, hab]; exact beq_self_eq_true _
        rw [if_pos hab] at HDT3
        clear hbq hab x0 x1
        go_wp2_with fail
        go_roundw
        case rel =>
         obtain ⟨j1, j2, j3, j4, j5, j6⟩ := HJ.out
         refine ⟨k, p + 1, ys, rfl, by go_num, ⟨j1, by omega, by omega, j4, ?_, ?_⟩, R4, B4⟩
         ·rw [j5, show m + 1 + (p + 1 + 1) = m + 1 + p + 2 by omega, HDT3.out]
          rfl
         ·exact drop_more j6
        case measure => simp [intOf]; omega
       ·obtain rfl : bq = false := by rw [← hbq]; exact beq_eq_false_iff_ne.2 (fun e => hab (WideShapes.bytes_inj (by rw [Lib.toList_data, Lib.toList_data] at e; exact e)).symm)
        rw [if_neg hab] at HDT3
        have hkl : k < ys.length := by obtain ⟨j1, j2, j3, j4, j5, j6⟩ := HJ.out; omega
        have z0 := strs_at R4.out k _ (List.getElem?_eq_getElem hkl)
        have f0 := strs_frozen R4.out k
        have i0'' : 0 ≤ (k : Int) := by omega
        have i1'' : (k : Int) < (xs.length : Int) := by obtain ⟨j1, j2, j3, j4, j5, j6⟩ := HJ.out; omega
        have HKL := Aside0.mk hkl
        generalize ys[k] = yk at z0
        clear hbq hab x0 hkl
        go_upto_region 13 with (fail)
        have R5 := Aside0.mk (show Kd.string.R 9 (w4.setCell ⟨g, k, none⟩ (.string b')) base (fun _ => True) (.slice (some ⟨g, 0, none⟩) xs.length c) (ys.set k b') by
         have := R_setK (enc := fun x => [Value.string x]) str_E str_M (fun _ => rfl) R4.out k HKL.out b'
         rw [show k * Kd.string.sz = k from Nat.mul_one k] at this
         exact this)
        have HGB := Aside0.mk (own_base (Kd.R_own R4.out).choose_spec g rfl)
        have B5 := Aside0.mk (B4.out.setCell (p := ⟨g, k, none⟩) HGB.out (.string b'))
        generalize w4.setCell ⟨g, k, none⟩ (.string b') = w5 at R5 B5 ⊢
        clear x1 z0 f0
        go_wp2_with fail
        go_roundw
        case rel =>
         obtain ⟨j1, j2, j3, j4, j5, j6⟩ := HJ.out
         refine ⟨k + 1, p + 1, ys.set k b', by go_num, by go_num, ⟨by omega, by omega, by omega, by rw [List.length_set]; exact j4, ?_, ?_⟩, R5, B5⟩
         ·rw [show m + 1 + (p + 1 + 1) = m + 1 + p + 2 by omega, HDT3.out, List.take_succ_eq_append_getElem (by rw [List.length_set]; exact HKL.out), List.getElem_set_self, List.take_set_of_le (Nat.le_refl _), j5]
          rfl
         ·rw [List.drop_set_of_lt (by omega)]; exact drop_more j6
        case measure => simp [intOf]; omega
      ·have d3 : decide ((p : Int) + 1 < (n2 : Int)) = false := decide_eq_false (by omega)
       obtain ⟨j1, j2, j3, j4, j5, j6⟩ := HJ.out
       have i0' : 0 ≤ (k : Int) := by omega
       have i1' : (k : Int) < (xs.length : Int) := by have := HN2.out; omega
       have hcl := fun c' ty => strs_clear HR3.out k (by have := HN2.out; omega) c' ty
       rw [j4] at hcl
       have hxc : xs.length ≤ c := HXC.out
       have RF := Aside0.mk (show Kd.string.R 9 (wr.setCells g k (Builtin.zeroCells (Value.string ⟨#[]⟩).cells (xs.length - k)).toList) base (fun _ => True) (.slice (some ⟨g, 0, none⟩) k c) (ys.take k) by
        have := R_frontK (enc := fun x => [Value.string x]) str_E str_M (fun _ => rfl) HR3.out k (by have := HN2.out; omega) (Builtin.zeroCells (Value.string ⟨#[]⟩).cells (xs.length - k)).toList
        rw [show k * Kd.string.sz = k from Nat.mul_one k] at this
        exact this)
       have HGB := Aside0.mk (own_base (Kd.R_own HR3.out).choose_spec g rfl)
       have BF := Aside0.mk (HB3.out.trans (Frm.below (B := base) (setCells_frm (Builtin.zeroCells (Value.string ⟨#[]⟩).cells (xs.length - k)).toList wr g k) (Nat.le_trans HBA.out HB3.out.size) (fun t _ e => by rw [e]; exact HGB.out)))
       have HE := Aside0.mk (show ys.take k = dd xs by rw [j5]; congr 1; exact List.take_of_length_le (by have := HN2.out; omega))
       generalize hL : (Builtin.zeroCells (Value.string ⟨#[]⟩).cells (xs.length - k)).toList = L at hcl RF BF
       clear hL j1 j2 j3 j4 j5 j6
       go_upto_region 15 with (fail)
       have RG := Aside0.mk (show Kd.string.R 9 (wr.setCells g k L) base (fun _ => True) (.slice (some ⟨g, 0, none⟩) k c) (ys.take k) from RF.out)
       generalize wr.setCells g k L = wf at RG BF ⊢
       clear hcl RF
       go_wp2_with fail
       go_ret
       rw [← HE.out]
       exact ⟨_, rfl, RG.out, BF.out⟩
   ·have d2 : decide ((m : Int) + 1 < (xs.length : Int)) = false := decide_eq_false (by omega)
    have HE := Aside0.mk (show dd xs = xs by
     have := HD.out
     rwa [List.take_of_length_le (by omega)] at this)
    go_wp2_with fail
    go_ret
    rw [HE.out]
    exact ⟨_, rfl, HR1.out, HB1.out⟩
end Go.Proofs.YtlnbekaldemebaaGreatDoor.Thw
/-! ## Layer 13 (publish): Waste. -/
namespace Go.Proofs.YtlnbekaldemebaaGreatDoor.Thw
open Go Go.RowKit Go.Proofs.YtlnbekaldemebaaGreatDoor.Print Go.Proofs.YtlnbekaldemebaaGreatDoorW.PrintWords Go.Proofs.YtlnbekaldemebaaGreatDoorW.PrintLast Go.Proofs.YtlnbekaldemebaaGreatDoorW.PrintMore
set_option linter.unusedVariables false
set_option linter.unusedSimpArgs false
theorem C_sgAt {w : World} {A : Option Addr} {xs : List SgI} (h : Kd.C k45 w A xs.length xs) {k : Nat} (hk : k < xs.length) : ∃ ad, A = some ad ∧ w.cell? (ad.add (k * 3)) = some (.int .i64 xs[k].f0) ∧ w.cell? ⟨(ad.add (k * 3)).block, (ad.add (k * 3)).off + 1, none⟩ = some (.int .i64 xs[k].f1) ∧ w.cell? ⟨(ad.add (k * 3)).block, (ad.add (k * 3)).off + 2, none⟩ = some (.int .u32 xs[k].f2) := by
 obtain ⟨ad, e, x0, x1, x2⟩ := at_T45 h (k : Int) (by omega) (by omega)
 have hx : rd_T45 xs (k : Int) = xs[k] := by
  unfold rd_T45
  rw [Int.toNat_natCast, List.getD_eq_getElem?_getD, List.getElem?_eq_getElem hk]
  rfl
 rw [hx, Int.toNat_natCast] at x0 x1 x2
 exact ⟨ad, e, x0, x1, x2⟩
set_option maxHeartbeats 3200000 in
theorem seg_is (s : SgI) (n : Int) (bn : Nat) (W : World) (hb : W.heap[bn]? = some (.cells #[.int .i64 n] 3)) : Calls Tryz.prog 33 #[.agg #[.int .i64 s.f0, .int .i64 s.f1, .int .u32 s.f2], .pointer (some ⟨bn, 0, none⟩)] W fun e w' => e = .returned (.bool (s.f0 == n)) ∧ Below W.heap.size W w' := by
 have hb2 := blk_alloc hb (.cells #[.int .i64 s.f0, .int .i64 s.f1, .int .u32 s.f2] 45)
 obtain ⟨c0, cr⟩ := cells1 hb2
 clear hb hb2
 go_enter Tryz.func33, Tryz.ntmps33
 go_wp2_with fail
 go_ret
 exact ⟨rfl, (Below.refl _ _).alloc (Nat.le_refl _) _⟩
def hasN (n : Int) (l : List SgI) : Bool := l.any fun s => s.f0 == n
theorem hasN_snoc (n : Int) (l : List SgI) (s : SgI) : hasN n (l ++ [s]) = (hasN n l || (s.f0 == n)) := by unfold hasN; rw [List.any_append]; simp
theorem hasN_take {n : Int} {l : List SgI} {i : Nat} (h : hasN n (l.take i) = true) : hasN n l = true := by
 unfold hasN at *
 rw [List.any_eq_true] at *
 obtain ⟨x, hx, e⟩ := h
 exact ⟨x, List.mem_of_mem_take hx, e⟩
set_option maxHeartbeats 6400000 in
set_option maxRecDepth 100000 in
theorem segs_index (n : Int) (bn : Nat) (A : Option Addr) (c : Nat) (xs : List SgI) (w : World) (hc : Kd.C k45 w A xs.length xs) (hn : xs.length ≤ 1000000) (hb : w.heap[bn]? = some (.cells #[.int .i64 n] 3)) :
  Calls Tryz.prog 68 #[.slice A xs.length c, .func (.func 33) #[] #[.pointer (some ⟨bn, 0, none⟩)]] w fun e w' => (∃ i : Int, e = .returned (.int .i64 i) ∧ decide (0 ≤ i) = hasN n xs) ∧ Below w.heap.size w w' := by
 have HC := Aside0.mk hc
 have HBN := Aside0.mk hb
 clear hc hb
 go_enter Tryz.func68, Tryz.ntmps68
 go_wp2_with fail
 go_loopw [8] (fun v8 wr => ∃ i : Nat, i ≤ xs.length ∧ v8 = .int .i64 i ∧ Aside0 (hasN n (xs.take i) = false) ∧ Aside0 (Below w.heap.size w wr)) (fun v8 _ => xs.length - (intOf v8).toNat)
 case atStart => exact ⟨0, by omega, rfl, ⟨rfl⟩, ⟨Below.refl _ _⟩⟩
 case round =>
  obtain ⟨i, hi, rfl, HI, HB⟩ := hrel
  by_cases hlt : i < xs.length
  ·have d1 : decide ((i : Int) < (xs.length : Int)) = true := decide_eq_true (by omega)
   obtain ⟨ad, e, x0, x1, x2⟩ := C_sgAt (Kd.C_below HC.out HB.out) hlt
   cases e
   have HT1 := Aside0.mk (show hasN n (xs.take (i + 1)) = (hasN n (xs.take i) || (xs[i].f0 == n)) by rw [List.take_succ_eq_append_getElem hlt, hasN_snoc])
   obtain ⟨x, hxe⟩ : ∃ x, xs[i] = x := ⟨_, rfl⟩
   rw [hxe] at x0 x1 x2 HT1
   clear hxe
   have i0 : 0 ≤ (i : Int) := by omega
   have i1 : (i : Int) < (xs.length : Int) := by omega
   go_wp2_with fail
   refine (seg_is x n bn _ (blk_below HBN.out HB.out)).mono ?_
   rintro e w2 ⟨rfl, b2⟩
   have B2 := Aside0.mk (HB.out.trans (b2.mono HB.out.size))
   clear b2 x0 x1 x2
   rw [HI.out, Bool.false_or] at HT1
   generalize (x.f0 == n) = q at HT1 ⊢
   cases q with
   | true =>
    have HR := Aside0.mk (hasN_take HT1.out)
    go_wp2_with fail
    go_ret
    exact ⟨⟨_, rfl, by rw [HR.out]; exact decide_eq_true (by omega)⟩, B2.out⟩
   | false =>
    go_wp2_with fail
    go_roundw
    case rel => exact ⟨i + 1, by omega, by go_num, HT1, B2⟩
    case measure => simp [intOf]; omega
  ·have d1 : decide ((i : Int) < (xs.length : Int)) = false := decide_eq_false (by omega)
   have HR := Aside0.mk (show hasN n xs = false by have := HI.out; rwa [List.take_of_length_le (by omega)] at this)
   go_wp2_with fail
   go_ret
   exact ⟨⟨_, rfl, by rw [HR.out]; rfl⟩, HB.out⟩
set_option maxHeartbeats 3200000 in
theorem segs_contains (n : Int) (bn : Nat) (A : Option Addr) (c : Nat) (xs : List SgI) (w : World) (hc : Kd.C k45 w A xs.length xs) (hn : xs.length ≤ 1000000) (hb : w.heap[bn]? = some (.cells #[.int .i64 n] 3)) :
  Calls Tryz.prog 32 #[.slice A xs.length c, .func (.func 33) #[] #[.pointer (some ⟨bn, 0, none⟩)]] w fun e w' => e = .returned (.bool (hasN n xs)) ∧ Below w.heap.size w w' := by
 have HI := Aside0.mk (segs_index n bn A c xs w hc hn hb)
 clear hc hb
 go_enter Tryz.func32, Tryz.ntmps32
 go_wp2_with fail
 refine HI.out.mono ?_
 rintro e w2 ⟨⟨i, rfl, hd⟩, b2⟩
 have B2 := Aside0.mk b2
 have HD := Aside0.mk hd
 clear b2 HI hd
 go_wp2_with fail
 go_ret
 refine ⟨?_, B2.out⟩
 rw [← HD.out]
 rfl
/-! ### the closure -/
noncomputable def needB (ver : Int) (segs : List SgI) (nm : ByteArray) : Bool := match verF nm with
 | some v => decide (ver ≤ wrap64 ((v : Int) + 1))
 | none => if (numF nm).2 = true then hasN (numF nm).1 segs else true
set_option maxHeartbeats 6400000 in
set_option maxRecDepth 100000 in
theorem needs.calls (ver : Int) (bm : Nat) (A : Option Addr) (c : Nat) (segs : List SgI) (nm : ByteArray) (hnm : nm.size ≤ 1000000) (w : World) (hL : LaidW w) (hb : w.heap[bm]? = some (.cells #[.int .i64 ver, .slice A segs.length c] 25)) (hc : Kd.C k45 w A segs.length segs) (hn : segs.length ≤ 1000000) :
  Calls Tryz.prog 29 #[.string nm, .pointer (some ⟨bm, 0, none⟩)] w fun e w' => e = .returned (.bool (needB ver segs nm)) ∧ Below w.heap.size w w' := by
 have HLW := Aside0.mk hL
 have HB := Aside0.mk hb
 have HC := Aside0.mk hc
 clear hL hb hc
 go_enter Tryz.func29, Tryz.ntmps29
 go_wp2_with fail
 refine (man_Version.calls nm hnm _ HLW.out).mono ?_
 rintro e w1 ⟨⟨rv, hrv, rfl⟩, b1⟩
 have B1 := Aside0.mk b1
 rcases verF_of hrv with ⟨v, hv, rfl⟩ | ⟨hv, rfl⟩
 ·have HN := Aside0.mk (show needB ver segs nm = decide (ver ≤ wrap64 ((v : Int) + 1)) by unfold needB; rw [hv])
  clear hrv hv b1
  obtain ⟨c0, c1, cr⟩ := cells2m (blk_below HB.out B1.out)
  go_wp2_with fail
  go_ret
  rw [HN.out]
  exact ⟨rfl, B1.out⟩
 ·have HN := Aside0.mk (show needB ver segs nm = (if (numF nm).2 = true then hasN (numF nm).1 segs else true) by unfold needB; rw [hv])
  clear hrv hv b1
  go_wp2_with fail
  refine (pub_number.calls nm hnm w1 (HLW.out.below B1.out)).mono ?_
  rintro e w2 ⟨rfl, b2⟩
  have B2 := Aside0.mk (B1.out.trans (b2.mono B1.out.size))
  generalize numF nm = nf at HN ⊢
  obtain ⟨n, is⟩ := nf
  simp only at HN ⊢
  clear b2 B1
  have HZ := Aside0.mk B2.out.size
  obtain ⟨c0, c1, cr⟩ := cells2m (blk_alloc (blk_below HB.out B2.out) (.cells #[.int .i64 n] 3))
  have HBN := Aside0.mk (blk_new w2 (.cells #[.int .i64 n] 3))
  have HC2 := Aside0.mk (Kd.C_below (Kd.C_below HC.out B2.out) (below_alloc (Below.refl _ _) (.cells #[.int .i64 n] 3)))
  have B3 := Aside0.mk (B2.out.alloc HZ.out (.cells #[.int .i64 n] 3))
  have hmf : ∀ (fn : Fn) (first cap : Array Value) (w : World), (Instr.makeFunc fn first cap).run Tryz.prog w = .ok (.func fn first cap) w := fun _ _ _ _ => rfl
  cases is with
  | true =>
   go_wp2_with fail
   refine (segs_contains n w2.heap.size A c segs _ HC2.out hn HBN.out).mono ?_
   rintro e w4 ⟨rfl, b4⟩
   have B4 := Aside0.mk (B3.out.trans (b4.mono B3.out.size))
   clear b4
   go_wp2_with fail
   go_ret
   have hn2 : needB ver segs nm = hasN n segs := by rw [HN.out]; simp
   rw [hn2]
   exact ⟨rfl, B4.out⟩
  | false =>
   go_wp2_with fail
   go_ret
   have hn2 : needB ver segs nm = true := by rw [HN.out]; simp
   rw [hn2]
   exact ⟨rfl, B3.out⟩
noncomputable def wasteL (ver : Int) (segs : List SgI) (xs : List ByteArray) : List ByteArray := dd (sorted (xs.filter fun x => !needB ver segs x))
set_option maxHeartbeats 6400000 in
set_option maxRecDepth 100000 in
theorem pub_Waste.calls (ver : Int) (A : Option Addr) (c : Nat) (segs : List SgI) (An : Option Addr) (cn : Nat) (xs : List ByteArray) (w : World) (hL : LaidW w) (hc : Kd.C k45 w A segs.length segs) (hn : segs.length ≤ 1000000) (hx : Kd.string.C w An xs.length xs) (hxc : xs.length ≤ cn) (hxn : xs.length ≤ 1000000) (hxs : ∀ x ∈ xs, x.size ≤ 1000000) :
  Calls Tryz.prog 9 #[.slice An xs.length cn, .agg #[.int .i64 ver, .slice A segs.length c]] w fun e w' => ∃ v, e = .returned v ∧ Kd.string.R 9 w' w.heap.size (fun _ => True) v (wasteL ver segs xs) ∧ Below w.heap.size w w' := by
 have HLW := Aside0.mk hL
 have HC := Aside0.mk hc
 have HX := Aside0.mk hx
 have HXS := Aside0.mk hxs
 clear hL hc hx hxs
 have hmf : ∀ (fn : Fn) (first cap : Array Value) (w : World), (Instr.makeFunc fn first cap).run Tryz.prog w = .ok (.func fn first cap) w := fun _ _ _ _ => rfl
 obtain ⟨Y, hY⟩ : ∃ Y, wasteL ver segs xs = Y := ⟨_, rfl⟩
 rw [hY]
 have HY := Aside0.mk hY
 clear hY
 go_enter Tryz.func9, Tryz.ntmps9
 go_upto_region 2 with (fail)
 obtain ⟨w1, hw1⟩ : ∃ w1, w.alloc (.cells #[.int .i64 ver, .slice A segs.length c] 25) = w1 := ⟨_, rfl⟩
 have XM := Aside0.mk (show w1.heap[w.heap.size]? = some (.cells #[.int .i64 ver, .slice A segs.length c] 25) by rw [← hw1]; exact blk_new _ _)
 have B1 := Aside0.mk (show Below w.heap.size w w1 by rw [← hw1]; exact (Below.refl _ w).alloc (Nat.le_refl _) _)
 rw [hw1]
 clear hw1
 go_wp2_with fail
 refine (strs_clone An xs.length cn xs w1 (Kd.C_below HX.out B1.out) hxc hxn).mono ?_
 rintro e w2 ⟨v2, rfl, r2, b2⟩
 obtain ⟨A2, c2, rfl⟩ := Kd.R_slice r2
 have R2 := Aside0.mk r2
 have B2 := Aside0.mk b2
 have Z2 := Aside0.mk b2.size
 clear r2 b2
 go_wp2_with fail
 refine (strs_delete (needB ver segs) w.heap.size A2 c2 xs w1.heap.size w2 R2.out hxn Z2.out (fun x hx W hW => needs.calls ver w.heap.size A c segs x (HXS.out x hx) W (HLW.out.below (B1.out.trans ((B2.out.trans hW).mono B1.out.size))) (blk_below XM.out (B2.out.trans hW)) (Kd.C_below HC.out (B1.out.trans ((B2.out.trans hW).mono B1.out.size))) hn)).mono ?_
 rintro e w3 ⟨v3, rfl, r3, b3⟩
 obtain ⟨A3, c3, rfl⟩ := Kd.R_slice r3
 have R3 := Aside0.mk r3
 have B3 := Aside0.mk (B2.out.trans b3)
 have HF := Aside0.mk (show (xs.filter fun x => !needB ver segs x).length ≤ 1000000 from Nat.le_trans (List.length_filter_le _ _) hxn)
 have HY2 := Aside0.mk (show dd (sorted (xs.filter fun x => !needB ver segs x)) = Y from HY.out)
 generalize (xs.filter fun x => !needB ver segs x) = fs at R3 HF HY2 ⊢
 clear r3 b3 R2 B2 HY
 go_wp2_with fail
 refine (strs_sort A3 c3 fs w1.heap.size w3 R3.out HF.out B3.out.size).mono ?_
 rintro e w4 ⟨rfl, r4, b4⟩
 have B4 := Aside0.mk (B3.out.trans b4)
 have HSL := sorted_length fs
 rw [← HSL] at r4 ⊢
 have HF4 := Aside0.mk (show (sorted fs).length ≤ 1000000 by rw [HSL]; exact HF.out)
 have R4 := Aside0.mk r4
 clear r4 b4 B3 R3 HF HSL
 generalize sorted fs = ss at R4 HF4 HY2 ⊢
 go_wp2_with fail
 refine (strs_compact A3 c3 ss w1.heap.size w4 R4.out HF4.out B4.out.size).mono ?_
 rintro e w5 ⟨v5, rfl, r5, b5⟩
 obtain ⟨A5, c5, rfl⟩ := Kd.R_slice r5
 have R5 := Aside0.mk r5
 have B5 := Aside0.mk (B1.out.trans ((B4.out.trans b5).mono B1.out.size))
 clear r5 b5
 go_wp2_with fail
 go_ret
 rw [HY2.out] at R5 ⊢
 exact ⟨_, rfl, Kd.R_lower R5.out B1.out.size, B5.out⟩
end Go.Proofs.YtlnbekaldemebaaGreatDoor.Thw
/-! ## Layer 13 (publish): awake. -/
namespace Go.Proofs.YtlnbekaldemebaaGreatDoor.Thw
open Go Go.RowKit Go.Proofs.YtlnbekaldemebaaGreatDoor.Print Go.Proofs.YtlnbekaldemebaaGreatDoorW.PrintWords Go.Proofs.YtlnbekaldemebaaGreatDoorW.PrintLast Go.Proofs.YtlnbekaldemebaaGreatDoorW.PrintMore
set_option linter.unusedVariables false
set_option linter.unusedSimpArgs false
/-- A remote of the call's own, from world to world. -/
structure RLaw (w : World) (r : Nat) (x : Rem) (V : World) (T : Nat → Prop) : Prop where
 at_ : RemAt V T r x
 sub : ∀ k, T k → w.heap.size ≤ k ∧ k < V.heap.size
 bel : Below w.heap.size w V
section
variable {w V V' : World} {T T' : Nat → Prop} {r : Nat} {x y : Rem}
theorem RLaw.lt (h : RLaw w r x V T) : ∀ k, T k → k < V.heap.size := fun k hk => (h.sub k hk).2
theorem RLaw.to (h : RLaw w r x V T) (f : Frm T V V') : Below w.heap.size w V' := h.bel.trans (f.below h.bel.size (fun i _ hi => (h.sub i hi).1))
theorem RLaw.laid (h : RLaw w r x V T) (hL : LaidW w) : ∀ W, Frm T V W → LaidW W := fun W f => hL.below (h.to f)
theorem RLaw.step (h : RLaw w r x V T) (k : RSt V T r y V' T') : RLaw w r y V' T' :=
 ⟨k.at_, fun i hi => ⟨(k.sub i hi).1.elim (fun ht => (h.sub i ht).1) (fun hle => Nat.le_trans h.bel.size hle), (k.sub i hi).2⟩, h.to k.frm⟩
theorem RLaw.below (h : RLaw w r x V T) (b : Below V.heap.size V V') : RLaw w r x V' T :=
 ⟨h.at_.frm (S := None') (Frm.of_new b) (fun _ _ x => x), fun k hk => ⟨(h.sub k hk).1, Nat.lt_of_lt_of_le (h.sub k hk).2 b.size⟩, h.bel.trans (b.mono h.bel.size)⟩
theorem RLaw.not (h : RLaw w r x V T) {g : Nat} (hg : V.heap.size ≤ g) : ¬ T g := fun hk => by have := (h.sub g hk).2; omega
end
/-- A block of one's own: it stays, whatever the remote does. -/
theorem own_step {V V' : World} {T T' : Nat → Prop} {r : Nat} {y : Rem} {g : Nat} {o : Obj} (k : RSt V T r y V' T') (hg : V.heap[g]? = some o) (hn : ¬ T g) : V'.heap[g]? = some o ∧ ¬ T' g := ⟨k.keeps hg hn, k.not (lt_of_block hg) hn⟩
/-! ### what awake comes to -/
abbrev abc : ByteArray := ⟨#[97, 98, 99]⟩
abbrev o3 : ByteArray := ⟨#[111, 48, 48, 48, 48, 48, 51]⟩
abbrev o4 : ByteArray := ⟨#[111, 48, 48, 48, 48, 48, 52]⟩
abbrev sx : ByteArray := ⟨#[120]⟩
abbrev m1 : ByteArray := ⟨#[109, 48, 48, 48, 48, 48, 49]⟩
theorem obj_3 : obj 3 = o3 := by
 show nameB 111 3 0 = _
 unfold nameB nameL
 rw [if_neg (by decide)]
 decide
theorem obj_4 : obj 4 = o4 := by
 show nameB 111 4 0 = _
 unfold nameB nameL
 rw [if_neg (by decide)]
 decide
theorem obj_0 : obj 0 = ⟨#[111, 48, 48, 48, 48, 48, 48]⟩ := by
 show nameB 111 0 0 = _
 unfold nameB nameL
 rw [if_neg (by decide)]
 decide
theorem mnf_1 : mnf 1 = m1 := by
 show nameB 109 1 1 = _
 unfold nameB nameL
 rw [if_neg (by decide)]
 decide
theorem ver_o {l : List UInt8} {b : UInt8} (hb : b ≠ 109) : verF ⟨(b :: l).toArray⟩ = none := verF_none fun n h => by
 have h3 := h.2.2
 injection h3 with h4 _
 exact hb h4
theorem ver_m1 : verF m1 = some 1 := verF_some ⟨by decide, by decide, by decide⟩
theorem up_abc (z : Nat) (hz : sumS2 (L abc) = z) : pubUpload ⟨[], [], 0⟩ 3 abc = (⟨[(o3, abc)], [], 2⟩, ⟨3, 3, z⟩, 0) := by
 have e : sgOf 3 abc = ⟨3, 3, z⟩ := by unfold sgOf; rw [hz]; rfl
 have e1 : (⟨[], [], 0⟩ : Rem).put o3 abc = (⟨[(o3, abc)], [], 1⟩, 0) := by simp [Rem.put, Rem.fate, Rem.next, Thw.put, wrap64]
 have e2 : (⟨[(o3, abc)], [], 1⟩ : Rem).get o3 = (⟨[(o3, abc)], [], 2⟩, abc, 0) := by simp [Rem.get, Rem.fate, Rem.next, look, wrap64]
 unfold pubUpload
 rw [if_neg (by decide), obj_3, e1]
 simp only
 rw [e2]
 simp only
 rw [if_neg (by decide), if_neg (by simp), e]
theorem lat_0 : pubLatest ⟨[(o3, abc)], [], 2⟩ = (⟨[(o3, abc)], [], 3⟩, (0, []), 5) := by
 have e1 : (⟨[(o3, abc)], [], 2⟩ : Rem).list = ([o3], 0) := by
  have : names [(o3, abc)] = [o3] := by simp [names, sorted]
  unfold Rem.list
  rw [if_neg (by simp [Rem.fate]), this]
 have e2 : (⟨[(o3, abc)], [], 2⟩ : Rem).next = ⟨[(o3, abc)], [], 3⟩ := by simp [Rem.next, wrap64]
 unfold pubLatest
 rw [e1, e2, if_neg (by decide)]
 show latEnd (latRun _ [o3]) = _
 have e3 : latStep ⟨[(o3, abc)], [], 3⟩ o3 = (⟨[(o3, abc)], [], 3⟩, none) := by
  unfold latStep
  rw [show verF o3 = none from ver_o (by decide)]
 rw [latRun, e3]
 rfl
theorem bytes_1 (z : Nat) : bytesR 1 [(⟨3, 3, (z : Nat)⟩ : SgI)] = (B (sealS (bodyS 1 [(3, 3, z)])), 0) := by
 have hright : rightB 1 [(⟨3, 3, (z : Nat)⟩ : SgI)] = true := by
  unfold rightB rightS rightS
  simp
 unfold bytesR
 rw [if_pos hright]
 rfl
theorem next_1 (z : Nat) (b : ByteArray) (hb : bytesR 1 [(⟨3, 3, (z : Nat)⟩ : SgI)] = (b, 0)) : pubNext ⟨[(o3, abc)], [], 3⟩ 0 [⟨3, 3, z⟩] = (⟨[(o3, abc), (m1, b)], [], 4⟩, (1, [⟨3, 3, z⟩]), 0) := by
 have e0 : wrap64 (0 + 1) = 1 := by rw [wrap64_in (by omega) (by omega)]; rfl
 have e1 : (⟨[(o3, abc)], [], 3⟩ : Rem).putNew m1 b = (⟨[(o3, abc), (m1, b)], [], 4⟩, 0) := by
  have : ¬ o3 = m1 := by decide
  simp [Rem.putNew, Rem.fate, Rem.next, look, ifAny, Thw.put, wrap64, this]
 unfold pubNext
 rw [e0, hb, mnf_1]
 simp only
 rw [e1]
 simp
theorem names_2 (b : ByteArray) : names [(o3, abc), (m1, b)] = [m1, o3] := by
 have hn : (([(o3, abc), (m1, b)] : Fls).map (·.1)).Nodup := by
  show [o3, m1].Nodup
  decide
 refine pw_unique ((names_perm _).trans ?_) (names_pw hn) ?_
 ·show [o3, m1].Perm [m1, o3]
  exact List.Perm.swap _ _ _
 ·refine List.Pairwise.cons ?_ (List.Pairwise.cons (fun _ h => by cases h) List.Pairwise.nil)
  intro a ha
  rw [List.mem_singleton.1 ha]
  show m1.data.toList < o3.data.toList
  decide
theorem lat_1 (z : Nat) (b : ByteArray) (hr : readR (L b) = (some (1, [(3, 3, z)]), 0)) : pubLatest ⟨[(o3, abc), (m1, b)], [], 4⟩ = (⟨[(o3, abc), (m1, b)], [], 6⟩, (1, [⟨3, 3, z⟩]), 0) := by
 have e1 : (⟨[(o3, abc), (m1, b)], [], 4⟩ : Rem).list = ([m1, o3], 0) := by
  unfold Rem.list
  rw [if_neg (by simp [Rem.fate]), names_2]
 have e2 : (⟨[(o3, abc), (m1, b)], [], 4⟩ : Rem).next = ⟨[(o3, abc), (m1, b)], [], 5⟩ := by simp [Rem.next, wrap64]
 unfold pubLatest
 rw [e1, e2, if_neg (by decide)]
 show latEnd (latRun _ [o3, m1]) = _
 have e3 : latStep ⟨[(o3, abc), (m1, b)], [], 5⟩ o3 = (⟨[(o3, abc), (m1, b)], [], 5⟩, none) := by
  unfold latStep
  rw [show verF o3 = none from ver_o (by decide)]
 have e4 : (⟨[(o3, abc), (m1, b)], [], 5⟩ : Rem).get m1 = (⟨[(o3, abc), (m1, b)], [], 6⟩, b, 0) := by
  have : ¬ o3 = m1 := by decide
  simp [Rem.get, Rem.fate, Rem.next, look, wrap64, this]
 have e5 : latStep ⟨[(o3, abc), (m1, b)], [], 5⟩ m1 = (⟨[(o3, abc), (m1, b)], [], 6⟩, some ((1, [⟨3, 3, z⟩]), 0)) := by
  unfold latStep
  rw [ver_m1]
  simp only
  rw [e4]
  simp only
  rw [if_neg (by decide), if_pos trivial, hr]
  simp [mkSg]
 rw [latRun, e3]
 simp only
 rw [latRun, e5]
 rfl
theorem fetch_1 (z : Nat) (hz : sumS2 (L abc) = z) (b : ByteArray) : pubFetch ⟨[(o3, abc), (m1, b)], [], 6⟩ ⟨3, 3, z⟩ = (⟨[(o3, abc), (m1, b)], [], 7⟩, abc, 0) := by
 have e4 : (⟨[(o3, abc), (m1, b)], [], 6⟩ : Rem).get o3 = (⟨[(o3, abc), (m1, b)], [], 7⟩, abc, 0) := by
  simp [Rem.get, Rem.fate, Rem.next, look, wrap64]
 have e : sgEq (sgOf 3 abc) ⟨3, 3, z⟩ = true := by
  unfold sgEq sgOf
  rw [hz]
  simp
  rfl
 unfold pubFetch
 simp only
 rw [obj_3, e4]
 simp only
 rw [if_neg (by decide), if_neg (by rw [e]; decide)]
theorem numF_eq (s : ByteArray) : numF s = (numN s, if L s = [] then false else (L (obj (numN s)) == L s)) := by
 unfold numF L
 rw [Lib.toList_data, Lib.toList_data]
theorem num_o3 : numF o3 = (3, true) := by
 have e : numN o3 = 3 := by kernel_rfl
 rw [numF_eq, e, obj_3, if_neg (by decide)]
 rfl
theorem num_o4 : numF o4 = (4, true) := by
 have e : numN o4 = 4 := by kernel_rfl
 rw [numF_eq, e, obj_4, if_neg (by decide)]
 rfl
theorem num_x : numF sx = (0, false) := by
 have e : numN sx = 0 := by kernel_rfl
 rw [numF_eq, e, obj_0, if_neg (by decide)]
 rfl
theorem waste_1 (z : Int) : wasteL 1 [⟨3, 3, z⟩] [o3, o4, sx, m1] = [o4] := by
 have h1 : needB 1 [⟨3, 3, z⟩] o3 = true := by unfold needB; rw [show verF o3 = none from ver_o (by decide), num_o3]; simp [hasN]
 have h2 : needB 1 [⟨3, 3, z⟩] o4 = false := by unfold needB; rw [show verF o4 = none from ver_o (by decide), num_o4]; simp [hasN]
 have h3 : needB 1 [⟨3, 3, z⟩] sx = true := by unfold needB; rw [show verF sx = none from ver_o (by decide), num_x]; simp
 have h4 : needB 1 [⟨3, 3, z⟩] m1 = true := by
  have e : wrap64 (((1 : Nat) : Int) + 1) = 2 := by rw [wrap64_in (by omega) (by omega)]; rfl
  unfold needB
  rw [ver_m1]
  simp only
  rw [e]
  rfl
 unfold wasteL
 have : ([o3, o4, sx, m1].filter fun x => !needB 1 [⟨3, 3, z⟩] x) = [o4] := by simp [h1, h2, h3, h4]
 rw [this]
 have hs : sorted [o4] = [o4] := by simp [sorted]
 rw [hs]
 rfl
end Go.Proofs.YtlnbekaldemebaaGreatDoor.Thw
/-! ## Layer 13 (publish): awake, walked. -/
namespace Go.Proofs.YtlnbekaldemebaaGreatDoor.Thw
open Go Go.RowKit Go.Proofs.YtlnbekaldemebaaGreatDoor.Print Go.Proofs.YtlnbekaldemebaaGreatDoorW.PrintWords Go.Proofs.YtlnbekaldemebaaGreatDoorW.PrintLast Go.Proofs.YtlnbekaldemebaaGreatDoorW.PrintMore
set_option linter.unusedVariables false
set_option linter.unusedSimpArgs false
/-- Names and objects are no longer than n. -/
def Fit (n : Nat) (m : Fls) : Prop := ∀ p ∈ m, p.1.size ≤ n ∧ p.2.size ≤ n
theorem Fit.names {n : Nat} {m : Fls} (h : Fit n m) : ∀ k ∈ names m, k.size ≤ n := fun k hk => by
 obtain ⟨p, hp, rfl⟩ := List.mem_map.1 (mem_names.1 hk)
 exact (h p hp).1
theorem Fit.look {n : Nat} {m : Fls} (h : Fit n m) : ∀ k b, look m k = some b → b.size ≤ n := fun k b hb => by
 unfold Thw.look at hb
 cases hf : m.find? fun p => decide (p.1 = k) with
 | none => rw [hf] at hb; cases hb
 | some p =>
  rw [hf] at hb
  cases hb
  exact (h p (List.mem_of_find?_eq_some hf)).2
theorem strs_lit (w : World) (xs : List ByteArray) (hm : xs.length ≤ 9223372036854775807) : Kd.string.C (w.alloc (.cells (xs.map Value.string).toArray 9)) (some ⟨w.heap.size, 0, none⟩) xs.length xs := by
 have h : Kd.string.R 9 (w.alloc (.cells (xs.map Value.string).toArray 9)) w.heap.size (fun _ => True) (.slice (some ⟨w.heap.size, 0, none⟩) xs.length xs.length) xs :=
  Kd.R_of_own (own_lit_of (enc := Value.string) w w.heap.size 9 xs (Nat.le_refl _) hm) (fun _ _ => trivial)
 obtain ⟨A, c, e, _, h2⟩ := Kd.R_reads h
 injection e with e1 e2 e3
 subst e1
 exact h2
/-- A row apart from the remote stays, and stays apart. -/
theorem R_step2 {α : Type} {d : Kd α} {e : Nat} {w w' : World} {base : Nat} {T T' : Nat → Prop} {r : Nat} {x : Rem} {v : Value} {xs : List α} (h : d.R e w base (fun k => ¬ T k) v xs) (S : RSt w T r x w' T') : d.R e w' base (fun k => ¬ T' k) v xs :=
 Kd.R_mono (Kd.R_move (Kd.R_bound h) (fun k hk' => S.frm.block k hk'.2.2.1 hk'.1)) (fun k hk' => S.not hk'.2.2.1 hk'.1)
set_option maxHeartbeats 12800000 in
set_option maxRecDepth 100000 in
theorem awake13.calls (w : World) (hL : LaidW w) : Calls Tryz.prog 7 #[] w fun e w' => e = .returned (.bool true) ∧ Below w.heap.size w w' := by
 have HL := Aside0.mk hL
 obtain ⟨z, hz⟩ : ∃ z, sumS2 (L abc) = z := ⟨_, rfl⟩
 have HZ := Aside0.mk (show z ≤ 4294967295 by rw [← hz]; have := sumS2_lt (L abc); omega)
 have HZE := Aside0.mk hz
 have hright : rightB 1 [(⟨3, 3, (z : Nat)⟩ : SgI)] = true := by
  unfold rightB rightS rightS
  simp
 obtain ⟨bb, hbb⟩ : ∃ bb, B (sealS (bodyS 1 [(3, 3, z)])) = bb := ⟨_, rfl⟩
 have HBY := Aside0.mk (show bytesR 1 [(⟨3, 3, (z : Nat)⟩ : SgI)] = (bb, 0) by rw [← hbb]; exact bytes_1 z)
 have HRD := Aside0.mk (show readR (L bb) = (some (1, [(3, 3, z)]), 0) by
  rw [← hbb, L_B]
  exact readR_put (v := 1) (l := [(3, 3, z)]) hright (fun p hp => by rw [List.mem_singleton.1 hp]; exact HZ.out))
 have HSZ := Aside0.mk (show bb.size ≤ 1000000 by
  rw [← hbb, B_size, sealS_length]
  have h1 := putS_len 1
  have h2 := putS_len 1
  have h3 := segsB_len [((3, 3, z) : Sn)]
  unfold bodyS
  rw [List.length_append, List.length_append]
  simp at h2 h3 ⊢
  omega)
 have HU := Aside0.mk (show ∀ x ∈ [(⟨3, 3, (z : Nat)⟩ : SgI)], U32 x from fun x hx => by rw [List.mem_singleton.1 hx]; have := HZ.out; exact ⟨by show (0 : Int) ≤ (z : Nat); omega, by show ((z : Nat) : Int) ≤ 4294967295; omega⟩)
 have HF1 := Aside0.mk (show Fit 1000000 [(o3, abc)] from fun p hp => by rw [List.mem_singleton.1 hp]; exact ⟨by decide, by decide⟩)
 have HF2 := Aside0.mk (show Fit 1000000 [(o3, abc), (m1, bb)] from fun p hp => by
  rcases List.mem_cons.1 hp with rfl | hp
  ·exact ⟨by decide, by decide⟩
  ·rw [List.mem_singleton.1 hp]; exact ⟨by show m1.size ≤ 1000000; decide, HSZ.out⟩)
 clear hL hz hbb hright
 go_enter Tryz.func7, Tryz.ntmps7
 go_wp2_with fail
 refine (remote_New.calls w).mono ?_
 rintro e w1 ⟨r, rfl, h1, b1⟩
 have S1 := Aside0.mk (show RLaw w r ⟨[], [], 0⟩ w1 (fun k => w.heap.size ≤ k ∧ k < w1.heap.size) from ⟨h1.mono fun k hk hge => ⟨hge, hk⟩, fun k hk => hk, b1⟩)
 clear h1 b1
 go_wp2_with fail
 refine (pub_Upload.calls w1 _ r _ S1.out.at_ S1.out.lt (S1.out.laid HL.out) 3 (by decide) abc (by decide)).mono ?_
 rintro e w2 ⟨rfl, T2, k2⟩
 rw [up_abc z HZE.out] at k2 ⊢
 have S2 := Aside0.mk (S1.out.step k2)
 clear k2 S1
 simp only
 go_wp2_with fail
 have S3 := Aside0.mk (S2.out.below (below_alloc (Below.refl _ _) (.cells #[.int .i64 3, .int .i64 3, .int .u32 (z : Nat)] 45)))
 have XS := Aside0.mk (blk_new w2 (.cells #[.int .i64 3, .int .i64 3, .int .u32 (z : Nat)] 45))
 have NS := Aside0.mk (S2.out.not (Nat.le_refl w2.heap.size))
 obtain ⟨gs, hgs⟩ : ∃ g, w2.heap.size = g := ⟨_, rfl⟩
 rw [hgs] at XS NS ⊢
 generalize w2.alloc (.cells #[.int .i64 3, .int .i64 3, .int .u32 (z : Nat)] 45) = w3 at S3 XS ⊢
 clear hgs S2
 refine (pub_Latest.calls w3 T2 r _ S3.out.at_ S3.out.lt (S3.out.laid HL.out) (by decide) HF1.out.names HF1.out.look).mono ?_
 rintro e w4 ⟨A4, c4, T4, rfl, _, k4⟩
 rw [lat_0] at k4 ⊢
 have S4 := Aside0.mk (S3.out.step k4)
 obtain ⟨xs4, ns4⟩ := own_step k4 XS.out NS.out
 have XS4 := Aside0.mk xs4
 have NS4 := Aside0.mk ns4
 clear k4 xs4 ns4 S3 XS NS
 simp only [List.length_nil]
 obtain ⟨c0, c1, c2, cr⟩ := cells3f (blk_alloc XS4.out (.cells #[.int .i64 0, .slice A4 0 c4] 25))
 go_wp2_with fail
 obtain ⟨w5, hw5⟩ : ∃ w5, (w4.alloc (.cells #[.int .i64 0, .slice A4 0 c4] 25)).alloc (.cells #[.int .i64 3, .int .i64 3, .int .u32 (z : Nat)] 45) = w5 := ⟨_, rfl⟩
 have S5 := Aside0.mk (show RLaw w r ⟨[(o3, abc)], [], 3⟩ w5 T4 by rw [← hw5]; exact (S4.out.below (below_alloc (Below.refl _ _) _)).below (below_alloc (Below.refl _ _) _))
 have XS5 := Aside0.mk (show w5.heap[gs]? = some (.cells #[.int .i64 3, .int .i64 3, .int .u32 (z : Nat)] 45) by rw [← hw5]; exact blk_alloc (blk_alloc XS4.out _) _)
 have XL5 := Aside0.mk (show w5.heap[w4.heap.size + 1]? = some (.cells #[.int .i64 3, .int .i64 3, .int .u32 (z : Nat)] 45) by rw [← hw5]; simpa using blk_new (w4.alloc (.cells #[.int .i64 0, .slice A4 0 c4] 25)) (.cells #[.int .i64 3, .int .i64 3, .int .u32 (z : Nat)] 45))
 have NL5 := Aside0.mk (S4.out.not (Nat.le_succ w4.heap.size))
 rw [hw5]
 obtain ⟨gl, hgl⟩ : ∃ g, w4.heap.size + 1 = g := ⟨_, rfl⟩
 obtain ⟨g4, hg4⟩ : ∃ g, w4.heap.size = g := ⟨_, rfl⟩
 rw [hgl] at XL5 ⊢
 rw [show w4.heap.size.succ = gl from hgl] at NL5
 rw [hg4]
 clear hw5 hgl hg4 S4 XS4 c0 c1 c2 cr
 refine (pub_Next.calls w5 T4 r _ S5.out.at_ S5.out.lt (S5.out.laid HL.out) 0 (by decide) none 0 0 (some ⟨gl, 0, none⟩) 1 [⟨3, 3, (z : Nat)⟩] (fun W f => seg_C (f.keeps XL5.out NL5.out)) (Nat.le_refl _) (by simp) HU.out).mono ?_
 rintro e w6 ⟨A6, c6, T6, rfl, hR6, k6⟩
 rw [next_1 z bb HBY.out] at k6 hR6 ⊢
 have S6 := Aside0.mk (S5.out.step k6)
 obtain ⟨xs6, ns6⟩ := own_step k6 XS5.out NS4.out
 have XS6 := Aside0.mk xs6
 have NS6 := Aside0.mk ns6
 have R6 := Aside0.mk (show Kd.R k45 45 w6 w5.heap.size (fun k => ¬ T6 k) (.slice A6 1 c6) [⟨3, 3, (z : Nat)⟩] from hR6)
 clear k6 xs6 ns6 S5 XS5 XL5 NS4 hR6
 simp only [List.length_singleton]
 go_wp2_with fail
 have S7 := Aside0.mk (S6.out.below (below_alloc (Below.refl _ _) (.cells #[.int .i64 1, .slice A6 1 c6] 25)))
 have XS7 := Aside0.mk (blk_alloc XS6.out (.cells #[.int .i64 1, .slice A6 1 c6] 25))
 have XM7 := Aside0.mk (blk_new w6 (.cells #[.int .i64 1, .slice A6 1 c6] 25))
 have NM7 := Aside0.mk (S6.out.not (Nat.le_refl w6.heap.size))
 have R7 := Aside0.mk (Kd.R_alloc R6.out (.cells #[.int .i64 1, .slice A6 1 c6] 25))
 obtain ⟨g6, hg6⟩ : ∃ g, w6.heap.size = g := ⟨_, rfl⟩
 rw [hg6] at XM7 NM7 ⊢
 generalize w6.alloc (.cells #[.int .i64 1, .slice A6 1 c6] 25) = w7 at S7 XS7 XM7 R7 ⊢
 clear hg6 S6 XS6 R6
 refine (pub_Latest.calls w7 T6 r _ S7.out.at_ S7.out.lt (S7.out.laid HL.out) (by simp) HF2.out.names HF2.out.look).mono ?_
 rintro e w8 ⟨A8, c8, T8, rfl, hR8, k8⟩
 rw [lat_1 z bb HRD.out] at k8 hR8 ⊢
 have S8 := Aside0.mk (S7.out.step k8)
 obtain ⟨xs8, ns8⟩ := own_step k8 XS7.out NS6.out
 obtain ⟨xm8, nm8⟩ := own_step k8 XM7.out NM7.out
 have XS8 := Aside0.mk xs8
 have NS8 := Aside0.mk ns8
 have XM8 := Aside0.mk xm8
 have NM8 := Aside0.mk nm8
 have R8 := Aside0.mk (R_step2 R7.out k8)
 have Q8 := Aside0.mk (show Kd.R k45 45 w8 w7.heap.size (fun k => ¬ T8 k) (.slice A8 1 c8) [⟨3, 3, (z : Nat)⟩] from hR8)
 clear k8 xs8 ns8 xm8 nm8 S7 XS7 XM7 NS6 NM7 R7 hR8
 simp only [List.length_singleton]
 obtain ⟨c0, c1, c2, cr⟩ := cells3f (blk_alloc XS8.out (.cells #[.int .i64 1, .slice A8 1 c8] 25))
 go_wp2_with fail
 have S9 := Aside0.mk (S8.out.below (below_alloc (Below.refl _ _) (.cells #[.int .i64 1, .slice A8 1 c8] 25)))
 have XS9 := Aside0.mk (blk_alloc XS8.out (.cells #[.int .i64 1, .slice A8 1 c8] 25))
 have XM9 := Aside0.mk (blk_alloc XM8.out (.cells #[.int .i64 1, .slice A8 1 c8] 25))
 have XN9 := Aside0.mk (blk_new w8 (.cells #[.int .i64 1, .slice A8 1 c8] 25))
 have NN9 := Aside0.mk (S8.out.not (Nat.le_refl w8.heap.size))
 have R9 := Aside0.mk (Kd.R_alloc R8.out (.cells #[.int .i64 1, .slice A8 1 c8] 25))
 have Q9 := Aside0.mk (Kd.R_alloc Q8.out (.cells #[.int .i64 1, .slice A8 1 c8] 25))
 obtain ⟨g8, hg8⟩ : ∃ g, w8.heap.size = g := ⟨_, rfl⟩
 rw [hg8] at XN9 NN9 ⊢
 generalize w8.alloc (.cells #[.int .i64 1, .slice A8 1 c8] 25) = w9 at S9 XS9 XM9 XN9 R9 Q9 c0 c1 c2 cr ⊢
 clear hg8 S8 XS8 XM8 R8 Q8 c0 c1 c2 cr
 refine (pub_Fetch.calls w9 T8 r _ S9.out.at_ S9.out.lt (S9.out.laid HL.out) ⟨3, 3, (z : Nat)⟩ (by show (-9223372036854775808 : Int) ≤ 3 ∧ (3 : Int) ≤ 9223372036854775807; omega) (fun k b hb => Nat.le_trans (HF2.out.look k b hb) (by decide))).mono ?_
 rintro e w10 ⟨rfl, T10, k10⟩
 rw [fetch_1 z HZE.out] at k10 ⊢
 have S10 := Aside0.mk (S9.out.step k10)
 obtain ⟨xs10, ns10⟩ := own_step k10 XS9.out NS8.out
 obtain ⟨xm10, nm10⟩ := own_step k10 XM9.out NM8.out
 obtain ⟨xn10, nn10⟩ := own_step k10 XN9.out NN9.out
 have XS10 := Aside0.mk xs10
 have XM10 := Aside0.mk xm10
 have XN10 := Aside0.mk xn10
 have R10 := Aside0.mk (R_step2 R9.out k10)
 have Q10 := Aside0.mk (R_step2 Q9.out k10)
 clear k10 xs10 ns10 xm10 nm10 xn10 nn10 S9 XS9 XM9 XN9 NS8 NM8 NN9 R9 Q9
 simp only
 obtain ⟨c0, c1, cr⟩ := cells2m (blk_alloc XM10.out (.cells #[.string o3, .string o4, .string sx, .string m1] 9))
 go_wp2_with fail
 have CL := Aside0.mk (strs_lit w10 [o3, o4, sx, m1] (by decide))
 obtain ⟨w11, hw11⟩ : ∃ w11, w10.alloc (.cells #[.string o3, .string o4, .string sx, .string m1] 9) = w11 := ⟨_, rfl⟩
 have CL' := Aside0.mk (show Kd.string.C w11 (some ⟨w10.heap.size, 0, none⟩) 4 [o3, o4, sx, m1] by rw [← hw11]; exact CL.out)
 have S11 := Aside0.mk (show RLaw w r ⟨[(o3, abc), (m1, bb)], [], 7⟩ w11 T10 by rw [← hw11]; exact S10.out.below (below_alloc (Below.refl _ _) _))
 have XS11 := Aside0.mk (show w11.heap[gs]? = some (.cells #[.int .i64 3, .int .i64 3, .int .u32 (z : Nat)] 45) by rw [← hw11]; exact blk_alloc XS10.out _)
 have XN11 := Aside0.mk (show w11.heap[g8]? = some (.cells #[.int .i64 1, .slice A8 1 c8] 25) by rw [← hw11]; exact blk_alloc XN10.out _)
 have R11 := Aside0.mk (show Kd.R k45 45 w11 w5.heap.size (fun k => ¬ T10 k) (.slice A6 1 c6) [⟨3, 3, (z : Nat)⟩] by rw [← hw11]; exact Kd.R_alloc R10.out _)
 have Q11 := Aside0.mk (show Kd.R k45 45 w11 w7.heap.size (fun k => ¬ T10 k) (.slice A8 1 c8) [⟨3, 3, (z : Nat)⟩] by rw [← hw11]; exact Kd.R_alloc Q10.out _)
 rw [hw11]
 obtain ⟨gn, hgn⟩ : ∃ g, w10.heap.size = g := ⟨_, rfl⟩
 rw [hgn] at CL' ⊢
 clear hw11 hgn CL S10 XS10 XM10 XN10 R10 Q10 c0 c1 cr
 refine (pub_Waste.calls 1 A6 c6 [⟨3, 3, (z : Nat)⟩] (some ⟨gn, 0, none⟩) 4 [o3, o4, sx, m1] w11 (HL.out.below S11.out.bel) (Kd.R_reads' R11.out).2.2 (by simp) CL'.out (Nat.le_refl _) (by decide) (by
  intro x hx
  simp only [List.mem_cons, List.not_mem_nil, or_false] at hx
  rcases hx with rfl | rfl | rfl | rfl <;> decide)).mono ?_
 rintro e w12 ⟨vw, rfl, rw12, b12⟩
 rw [waste_1] at rw12
 obtain ⟨Aw, cw, rfl⟩ := Kd.R_slice rw12
 have RW := Aside0.mk rw12
 have XS12 := Aside0.mk (blk_below XS11.out b12)
 have XN12 := Aside0.mk (blk_below XN11.out b12)
 have Q12 := Aside0.mk (Kd.R_below Q11.out b12)
 have B12 := Aside0.mk (S11.out.bel.trans (b12.mono S11.out.bel.size))
 clear rw12 b12 S11 XS11 XN11 R11 Q11 CL'
 have heq : ∀ w, (binOp BinOp.eql 45 (.agg #[.int .i64 3, .int .i64 3, .int .u32 (z : Nat)]) (.agg #[.int .i64 3, .int .i64 3, .int .u32 (z : Nat)])).run Tryz.prog w = .ok (.bool true) w := fun w => by
  simp [binOp, Op.equal, Op.maxDepth, eqSeg 9998 w]
 go_upto_region 10 with (fail)
 refine region_still (by kernel_rfl) (by kernel_rfl) (fun W => Below w12.heap.size w12 W) ((Below.refl _ _).drew) ?_
 rintro w13 b13
 have B13 := Aside0.mk (B12.out.trans (b13.mono B12.out.size))
 obtain ⟨n0, n1, fn⟩ := cells2m (blk_below XN12.out b13)
 obtain ⟨s0, s1, s2⟩ := cells3g (blk_below XS12.out b13)
 obtain ⟨ad, rfl, k0, k1, k2⟩ := at_T45 (Kd.R_reads' (Kd.R_below Q12.out b13)).2.2 0 (by omega) (by simp)
 have hrd : rd_T45 [(⟨3, 3, (z : Nat)⟩ : SgI)] 0 = ⟨3, 3, (z : Nat)⟩ := rfl
 rw [hrd] at k0 k1 k2
 simp only [Int.toNat_zero, Nat.zero_mul] at k0 k1 k2
 have e0 : ad.add 0 = ad := by unfold Addr.add; split <;> simp_all
 rw [e0] at k0 k1 k2
 obtain ⟨ad2, rfl, q0⟩ := C_strAt (Kd.R_reads' (Kd.R_below RW.out b13)).2.2 (show 0 < [o4].length by decide)
 have e0' : ad2.add 0 = ad2 := by unfold Addr.add; split <;> simp_all
 rw [e0'] at q0
 replace q0 : w13.cell? ad2 = some (.string o4) := q0
 clear b13 Q12 XN12 XS12 B12 RW hrd e0 e0'
 refine WS.out ?_
 repeat (first | refine ws_want (v := _) (a' := _) (by rfl) (by go_simp; rfl) (by simp only [Act.put, List.setIfInBounds_toArray, List.set_cons_zero, List.set_cons_succ]; rfl) ?_ | refine ws_skip (a' := _) (by rfl) (by simp only [Act.put, List.setIfInBounds_toArray, List.set_cons_zero, List.set_cons_succ]; rfl) ?_)
 refine ws_nil ?_
 go_wp2_with fail
 go_ret
 exact ⟨rfl, B13.out⟩
end Go.Proofs.YtlnbekaldemebaaGreatDoor.Thw
