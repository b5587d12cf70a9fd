/- Layer 2: CrcTells' walk. -/
import Derived.Test.YtcahpaoeailajaaEv02F
import Derived.Test.YtcahpaoeailajaaHead
import Derived.Test.YtcahpaoeailajaaPlain02U
import Derived.Deep.CutRange
import Derived.Deep.CutBlock
import Derived.RegionTactic
import Derived.BigRegion
namespace Go.Proofs.Ytcahpaoeailajaa.Thw
open Go Go.RowKit Go.Proofs.Ytcahpaoeailajaa.Ref Go.Proofs.YtcahpaoeailajaaW.PrintWords Go.Proofs.YtcahpaoeailajaaW.PrintLast Go.Proofs.YtcahpaoeailajaaW.PrintMore
set_option linter.unusedVariables false
set_option linter.unusedSimpArgs false
/-- A row of bytes that was made of a text: behind its end it is frozen. -/
def ByR (W : World) (g : Nat) (xs : Bs) : Prop := ∃ arr k, W.heap[g]? = some (.cells arr 5 (k, k + 1)) ∧ xs.length ≤ k ∧ k = arr.size ∧ ∀ i (h : i < xs.length), arr[i]? = some (.int .u8 (xs[i].toNat : Int))
section
variable {W W' : World} {g : Nat} {xs : Bs}
theorem ByR.cell (h : ByR W g xs) {i : Nat} (hi : i < xs.length) : W.cell? ⟨g, i, none⟩ = some (.int .u8 (xs[i].toNat : Int)) ∧ W.frozen? ⟨g, i, none⟩ = false := by
  obtain ⟨arr, k, hb, h1, h2, h3⟩ := h
  refine ⟨?_, ?_⟩
  · simp [World.cell?, hb, h3 i hi]
  · simp [World.frozen?, hb]; omega
theorem ByR.step (h : ByR W g xs) (hb : W'.heap[g]? = W.heap[g]?) : ByR W' g xs := by
  obtain ⟨arr, k, hb2, h1⟩ := h
  exact ⟨arr, k, hb.trans hb2, h1⟩
theorem ByR.lt (h : ByR W g xs) : g < W.heap.size := by
  obtain ⟨arr, k, hb, h1⟩ := h
  exact lt_of_block hb
theorem ByR.set (h : ByR W g xs) {i : Nat} (hi : i < xs.length) (v : UInt8) : ByR (W.setCell ⟨g, i, none⟩ (.int .u8 (v.toNat : Int))) g (xs.set i v) := by
  obtain ⟨arr, k, hb, h1, h2, h3⟩ := h
  refine ⟨arr.setIfInBounds i (.int .u8 (v.toNat : Int)), k, by simp [World.setCell, Array.getElem?_modify, hb], by simpa using h1, by simpa using h2, fun j hj => ?_⟩
  have hj' : j < xs.length := by simpa using hj
  by_cases e : i = j
  · subst e
    rw [Array.getElem?_setIfInBounds_self_of_lt (by omega)]
    simp
  · rw [Array.getElem?_setIfInBounds_ne e, h3 j hj']
    simp [e]
theorem ByR.text (h : ByR W g xs) (cap : Nat) : (convert 32 9 (.slice (some ⟨g, 0, none⟩) xs.length cap)).run Try.prog W = .ok (.string (B xs)) W := by
  have e : strOfNums (xs.map fun b => (b.toNat : Int)) = B xs := by
    apply L_inj
    rw [L_strOfNums, L_B]
    simp [List.map_map, Function.comp_def]
  rw [← e]
  refine run_convert_bytes_arg W 32 5 Try.underlying32 Try.underlying5 g 0 xs.length cap (xs.map fun b => (b.toNat : Int)) (by simp) (fun i hi => ?_) 9 Try.underlying9
  rw [Nat.zero_add, (h.cell hi).1]
  simp [List.getD_eq_getElem?_getD, hi]
end
theorem ByR.new (W : World) (s : ByteArray) : ByR (Lib.bytesWorld W 5 s) W.heap.size (L s) := by
  refine ⟨_, _, Lib.bytesWorld_at_new W 5 s, ?_, rfl, fun i hi => ?_⟩
  · simp [Lib.bytesCells, L]
  · have := Lib.bytesWorld_cell W 5 s i (by rw [L_length] at hi; exact hi)
    rw [World.cell?, Lib.bytesWorld_at_new] at this
    have hi' : i < s.data.size := by simpa [L] using hi
    simpa [L, List.getD_eq_getElem?_getD, Array.getElem?_eq_getElem hi'] using this
theorem cells4u {w : World} {s : Nat} {t : TypeId} {ts : Bs} (hl : ts.length = 4) (h : w.heap[s]? = some (.cells (ts.map fun b => Value.int .u8 (b.toNat : Int)).toArray t)) {i : Nat} (hi : i < ts.length) : w.cell? ⟨s, i, none⟩ = some (.int .u8 (ts[i].toNat : Int)) := by
  simp [World.cell?, h, hi]
set_option maxHeartbeats 12800000 in
set_option maxRecDepth 100000 in
theorem tells_walk (b : ByteArray) (at_ : Int) (u0 u1 u2 u3 : UInt8) (hat : at_ ≤ 9223372036854775807) (w : World) :
    Calls Try.prog 5 #[.string b, .int .i64 at_, .agg #[.int .u8 (u0.toNat : Int), .int .u8 (u1.toNat : Int), .int .u8 (u2.toNat : Int), .int .u8 (u3.toNat : Int)]] w fun e w' => e = .returned (.bool true) ∧ Below w.heap.size w w' := by
  have hpb := fun (s : ByteArray) (W : World) => print_bytes (P := Try.prog) 9 32 5 Try.underlying9 Try.underlying32 Try.underlying5 s W
  obtain ⟨ts, hts⟩ : ∃ ts : Bs, [u0, u1, u2, u3] = ts := ⟨_, rfl⟩
  have hbox : (#[.int .u8 (u0.toNat : Int), .int .u8 (u1.toNat : Int), .int .u8 (u2.toNat : Int), .int .u8 (u3.toNat : Int)] : Array Value) = (ts.map fun b => Value.int .u8 (b.toNat : Int)).toArray := by rw [← hts]; rfl
  have htl : ts.length = 4 := by rw [← hts]; rfl
  have HTL := Aside0.mk htl
  have XB0 := Aside0.mk (show (w.alloc (.cells #[.int .u8 (u0.toNat : Int), .int .u8 (u1.toNat : Int), .int .u8 (u2.toNat : Int), .int .u8 (u3.toNat : Int)] 31)).heap[w.heap.size]? = some (.cells (ts.map fun b => Value.int .u8 (b.toNat : Int)).toArray 31) by rw [hbox]; exact blk_new w _)
  clear htl hbox hts
  go_enter Try.func5, Try.ntmps5
  go_wp2_with fail
  refine (thwartlaw02_awake.calls true _ awake02R).mono ?_
  rintro e w1 ⟨rfl, b1⟩
  have B1 := Aside0.mk (((Below.refl w.heap.size w).alloc (Nat.le_refl _) (.cells #[.int .u8 (u0.toNat : Int), .int .u8 (u1.toNat : Int), .int .u8 (u2.toNat : Int), .int .u8 (u3.toNat : Int)] 31)).trans (b1.mono (by simp)))
  have X1 := Aside0.mk ((b1.block _ (lt_of_block XB0.out)).trans XB0.out)
  clear b1 XB0
  by_cases h0 : b.size = 0
  · have d0 : ((b.size : Int) == 0) = true := by simp [h0]
    go_wp2_with fail
    go_ret
    exact ⟨rfl, B1.out⟩
  have d0 : ((b.size : Int) == 0) = false := by simp [h0]
  by_cases h1 : 1000 < b.size
  · have d1 : decide ((1000 : Int) < (b.size : Int)) = true := decide_eq_true (by omega)
    go_wp2_with fail
    go_ret
    exact ⟨rfl, B1.out⟩
  have d1 : decide ((1000 : Int) < (b.size : Int)) = false := decide_eq_false (by omega)
  by_cases h2 : at_ < 0
  · have d2 : decide (at_ < 0) = true := decide_eq_true h2
    go_wp2_with fail
    go_ret
    exact ⟨rfl, B1.out⟩
  have d2 : decide (at_ < 0) = false := decide_eq_false h2
  go_wp2_with fail
  refine (crc_Seal.calls b _ w1 (crc_Seal_S b (by omega))).mono ?_
  rintro e w2 ⟨rfl, b2⟩
  have B2 := Aside0.mk (B1.out.trans (b2.mono B1.out.size))
  have X2 := Aside0.mk ((b2.block _ (lt_of_block X1.out)).trans X1.out)
  obtain ⟨sl, hsl⟩ : ∃ sl, B (sealS (L b)) = sl := ⟨_, rfl⟩
  have HSL := Aside0.mk hsl
  rw [hsl]
  clear b2 hsl
  go_upto_region 5 with (fail)
  have hls : L sl = sealS (L b) := by rw [← HSL.out, L_B]
  have hsz : sl.size = b.size + 4 := by rw [← L_length, hls, sealS_length, L_length]
  have R3 := Aside0.mk (show ByR (Lib.bytesWorld w2 5 sl) w2.heap.size (sealS (L b)) by rw [← hls]; exact ByR.new w2 sl)
  have B3 := Aside0.mk (bytes_below B2.out B2.out.size 5 sl)
  have X3 := Aside0.mk ((Lib.bytesWorld_at_old w2 5 sl _ (lt_of_block X2.out)).trans X2.out)
  generalize Lib.bytesWorld w2 5 sl = wc at R3 B3 X3 ⊢
  obtain ⟨cap, hcap⟩ : ∃ cap, grownCap w2 sl.size 0 5 = cap := ⟨_, rfl⟩
  rw [hcap, hsz]
  obtain ⟨g, hg⟩ : ∃ g, w2.heap.size = g := ⟨_, rfl⟩
  rw [hg] at R3 ⊢
  have HGN := Aside0.mk (show w.heap.size < g by rw [← hg]; exact lt_of_block X2.out)
  clear hcap hsz hls hg HSL
  have hslen : (sealS (L b)).length = b.size + 4 := by rw [sealS_length, L_length]
  have ht3 := R3.out.text cap
  rw [hslen] at ht3
  clear hslen
  go_wp2_with fail
  refine (crc_Open.calls _ _ _ _ (crc_Open_S (B (sealS (L b))) (by rw [B_size, sealS_length, L_length]; omega))).mono ?_
  rintro e w4 ⟨rfl, b4⟩
  rw [L_B, openS_seal]
  have hbb : B (L b) = b := L_inj (by rw [L_B])
  simp only [hbb]
  have B4 := Aside0.mk (B3.out.trans (b4.mono B3.out.size))
  have X4 := Aside0.mk ((b4.block _ (lt_of_block X3.out)).trans X3.out)
  have R4 := Aside0.mk (R3.out.step (b4.block _ R3.out.lt))
  clear b4 ht3 hbb hpb
  have hw4 : IntKind.i64.wrap ((b.size : Int) + 4) = (b.size : Int) + 4 := IntWalk.i64_in _ (by omega)
  obtain ⟨p, hp⟩ : ∃ p : Nat, at_ % (b.size : Int) = (p : Int) := ⟨(at_ % (b.size : Int)).toNat, by have := Int.emod_nonneg at_ (show (b.size : Int) ≠ 0 by omega); omega⟩
  have hpn : p < b.size := by have := Int.emod_lt_of_pos at_ (show (0 : Int) < b.size by omega); omega
  have htm : at_.tmod (b.size : Int) = (p : Int) := by rw [Int.tmod_eq_emod_of_nonneg (by omega)]; exact hp
  have hbl : (L b).length = b.size := L_length b
  have HBL := Aside0.mk hbl
  clear hbl
  go_wp2_with fail
  go_loopw [11, 12] (fun v11 v12 wr => ∃ i : Nat, i ≤ 4 ∧ v12 = .int .i64 i ∧ v11 = .bool (anyT' ts (L b).length p i) ∧ Aside0 (ByR wr g (stepC (L b) ts p i)) ∧ Aside0 (wr.heap[w.heap.size]? = some (.cells (ts.map fun b => Value.int .u8 (b.toNat : Int)).toArray 31)) ∧ Aside0 (Below w.heap.size w wr)) (fun _ v12 _ => 4 - (intOf v12).toNat)
  case atStart => exact ⟨0, by omega, rfl, by simp [anyT', turns], ⟨by rw [stepC_zero _ _ _ (by rw [HBL.out]; exact hpn)]; exact R4.out⟩, X4, B4⟩
  case round =>
    obtain ⟨i, hi, rfl, rfl, HR, HX, HB⟩ := hrel
    have hlen := stepC_length (L b) ts p i HTL.out hi (by rw [HBL.out]; exact hpn)
    rw [HBL.out] at hlen
    have HLEN := Aside0.mk hlen
    clear hlen
    by_cases hi4 : i < 4
    · have d4 : decide ((i : Int) < 4) = true := decide_eq_true (by omega)
      have s1 : IntKind.i64.wrap (4 + (p : Int)) = 4 + (p : Int) := IntWalk.i64_in _ (by omega)
      have s2 : IntKind.i64.wrap (4 + (p : Int) + (i : Int)) = ((4 + p + i : Nat) : Int) := by rw [IntWalk.i64_in _ (by omega)]; omega
      have hit : i < ts.length := by rw [HTL.out]; exact hi4
      by_cases hk : p + i < b.size
      · have dk : decide (4 + (p : Int) + (i : Int) < (b.size : Int) + 4) = true := decide_eq_true (by omega)
        obtain ⟨x, hx, hnext⟩ := stepC_next (L b) ts p i HTL.out hi4 (by rw [HBL.out]; exact hpn) (by rw [HBL.out]; exact hk)
        have HNX := Aside0.mk hnext
        have HXX := Aside0.mk hx
        have hfl := anyT_more ts (L b).length p i (by rw [HBL.out]; exact hk) hit
        have HFL := Aside0.mk hfl
        have hlt : 4 + p + i < (stepC (L b) ts p i).length := by rw [HLEN.out]; omega
        have HLT := Aside0.mk hlt
        clear hlt
        have hxe : (stepC (L b) ts p i)[4 + p + i]'(HLT.out) = x := by
          have h5 := List.getElem?_eq_getElem HLT.out
          rw [HXX.out] at h5
          exact (Option.some.inj h5).symm
        have HXE := Aside0.mk hxe
        have hbit : Go.bits .xor .u8 (x.toNat : Int) (ts[i].toNat : Int) = ((x.toNat ^^^ ts[i].toNat : Nat) : Int) := u8_xor_nat _ _ x.toNat_lt ts[i].toNat_lt
        have hne : ((ts[i].toNat : Int) != 0) = (ts[i] != 0) := by
          rw [Bool.eq_iff_iff]
          simp only [bne_iff_ne, ne_eq]
          constructor
          · intro h1 h2; exact h1 (by rw [h2]; rfl)
          · intro h1 h2; exact h1 (UInt8.toNat_inj.1 (by simpa using h2))
        have HNE := Aside0.mk hne
        have HBIT := Aside0.mk hbit
        have k0 : 0 ≤ 4 + (p : Int) + (i : Int) := by omega
        have k1 : 4 + (p : Int) + (i : Int) < (b.size : Int) + 4 := by omega
        have k2 : (4 + (p : Int) + (i : Int)).toNat = 4 + p + i := by omega
        have i0 : 0 ≤ (i : Int) := by omega
        have i1 : (i : Int) < 4 := by omega
        clear hx hnext hfl hxe hne hbit
        go_upto_region 14 with (fail)
        refine region_tail 11 (by kernel_rfl) (by kernel_rfl) (fun W => ByR W g (stepC (L b) ts p i) ∧ W.heap[w.heap.size]? = some (.cells (ts.map fun b => Value.int .u8 (b.toNat : Int)).toArray 31) ∧ Below w.heap.size w W)
          ⟨HR.out, HX.out, HB.out.drew⟩ ?_
        rintro w5 ⟨r5, x5, b5⟩
        obtain ⟨c5, z5⟩ := r5.cell HLT.out
        rw [HXE.out] at c5
        have t5 := cells4u HTL.out x5 hit
        have hbit := HBIT.out
        have R5 := Aside0.mk r5
        have X5 := Aside0.mk x5
        have B5 := Aside0.mk b5
        clear r5 x5 b5
        simp only [List.take_succ_cons, List.take_zero, List.drop_succ_cons, List.drop_zero]
        repeat still_step
        refine wpStill_nil ?_
        go_upto_region 15 with (fail)
        have R6 := Aside0.mk (show ByR (w5.setCell ⟨g, 4 + p + i, none⟩ (.int .u8 ((x.toNat ^^^ ts[i].toNat : Nat) : Int))) g (stepC (L b) ts p (i + 1)) by rw [HNX.out, ← UInt8.toNat_xor]; exact R5.out.set HLT.out _)
        have X6 := Aside0.mk (blk_far X5.out (p := ⟨g, 4 + p + i, none⟩) (by have := HGN.out; show w.heap.size ≠ g; omega) (.int .u8 ((x.toNat ^^^ ts[i].toNat : Nat) : Int)))
        have B6 := Aside0.mk (((Frm.of_new (S := fun k => k = g) (Below.refl _ w)).trans (Frm.of_below B5.out) (fun _ _ x => x) (fun i hi h => by omega)))
        have BB6 := Aside0.mk (show Below w.heap.size w (w5.setCell ⟨g, 4 + p + i, none⟩ (.int .u8 ((x.toNat ^^^ ts[i].toNat : Nat) : Int))) from B5.out.setCell (by have := HGN.out; show w.heap.size ≤ g; omega) _)
        generalize w5.setCell ⟨g, 4 + p + i, none⟩ (.int .u8 ((x.toNat ^^^ ts[i].toNat : Nat) : Int)) = w6 at R6 X6 BB6 ⊢
        have t6 := cells4u HTL.out X6.out hit
        clear c5 z5 t5 hbit B6
        obtain ⟨fl, hfl⟩ : ∃ fl, anyT' ts (L b).length p i = fl := ⟨_, rfl⟩
        rw [hfl] at HFL ⊢
        clear hfl
        cases fl with
        | true =>
          go_wp2_with fail
          go_roundw
          case rel => exact ⟨i + 1, by omega, by go_num, by rw [HFL.out]; rfl, R6, X6, BB6⟩
          case measure => simp [intOf]; omega
        | false =>
          go_wp2_with fail
          go_roundw
          case rel => exact ⟨i + 1, by omega, by go_num, by rw [HFL.out, ← HNE.out]; simp, R6, X6, BB6⟩
          case measure => simp [intOf]; omega
      · have dk : decide (4 + (p : Int) + (i : Int) < (b.size : Int) + 4) = false := decide_eq_false (by omega)
        have hst := turns_stay ts (L b).length p i (by rw [HBL.out]; omega)
        have e1 : stepC (L b) ts p (i + 1) = stepC (L b) ts p i := by unfold stepC; rw [hst]
        have e2 : anyT' ts (L b).length p (i + 1) = anyT' ts (L b).length p i := by unfold anyT'; rw [hst]
        have E1 := Aside0.mk e1
        have E2 := Aside0.mk e2
        clear hst e1 e2
        go_wp2_with fail
        go_roundw
        case rel => exact ⟨i + 1, by omega, by go_num, by rw [E2.out], by rw [E1.out]; exact HR, HX, HB⟩
        case measure => simp [intOf]; omega
    · have d4 : decide ((i : Int) < 4) = false := decide_eq_false (by omega)
      have hi' : i = 4 := by omega
      subst hi'
      have htx := HR.out.text cap
      rw [HLEN.out] at htx
      have hend := stepC_end (L b) ts p HTL.out (by rw [HBL.out]; exact hpn)
      have HEND := Aside0.mk hend
      clear hend
      go_wp2_with fail
      refine (crc_Open.calls _ _ _ _ (crc_Open_S (B (stepC (L b) ts p 4)) (by rw [B_size, HLEN.out]; omega))).mono ?_
      rintro e w7 ⟨rfl, b7⟩
      rw [L_B, HEND.out]
      have B7 := Aside0.mk (HB.out.trans (b7.mono HB.out.size))
      clear b7 htx
      obtain ⟨fl, hfl⟩ : ∃ fl, anyT' ts (L b).length p 4 = fl := ⟨_, rfl⟩
      rw [hfl]
      clear hfl
      cases fl with
      | true =>
        go_wp2_with fail
        go_ret
        exact ⟨rfl, B7.out⟩
      | false =>
        go_wp2_with fail
        go_ret
        exact ⟨rfl, B7.out⟩
end Go.Proofs.Ytcahpaoeailajaa.Thw
