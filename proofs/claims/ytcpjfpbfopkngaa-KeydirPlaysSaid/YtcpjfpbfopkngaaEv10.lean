/- Layer 10: the directory's object in memory; New, next, find, Len, Cap. -/
import Derived.Test.YtcpjfpbfopkngaaEv10S
import Derived.Test.YtcpjfpbfopkngaaEv10H
import Derived.Test.YtcpjfpbfopkngaaPlain10
namespace Go.Proofs.Ytcpjfpbfopkngaa.Thw
open Go Go.RowKit Go.Proofs.YtcpjfpbfopkngaaW.PrintWords Go.Proofs.YtcpjfpbfopkngaaW.PrintLast Go.Proofs.YtcpjfpbfopkngaaW.PrintMore
set_option linter.unusedVariables false
set_option linter.unusedSimpArgs false
abbrev Loc4 := Int × Int × Int × Int
abbrev Slt := ByteArray × Loc4 × Bool
abbrev kL : Kd Loc4 := Kd.pair (Kd.int .i64) (Kd.pair (Kd.int .i64) (Kd.pair (Kd.int .i64) (Kd.int .u64)))
abbrev kS : Kd Slt := Kd.pair Kd.string (Kd.pair kL Kd.bool)
def encS (s : Slt) : List Value := [.string s.1, .int .i64 s.2.1.1, .int .i64 s.2.1.2.1, .int .i64 s.2.1.2.2.1, .int .u64 s.2.1.2.2.2, .bool s.2.2]
def zS : Slt := (⟨#[]⟩, (0, 0, 0, 0), false)
theorem infoS : (Try.prog.info? 57).map (fun i => (i.zero, i.size, i.bytes)) = some (some (.agg #[.string ⟨#[]⟩, .int .i64 0, .int .i64 0, .int .i64 0, .int .u64 0, .bool false]), 6, 56) := by kernel_rfl
theorem kS_K {w : World} {x : Slt} {cs : List Value} (h : kS.K w x cs) : cs = encS x := by
  obtain ⟨c0, c1, rfl, h0, ⟨c2, c3, rfl, ⟨c4, c5, rfl, h4, ⟨c6, c7, rfl, h6, ⟨c8, c9, rfl, h8, h9⟩⟩⟩, h3⟩⟩ := h
  have h0' : c0 = [Value.string x.1] := h0
  have h3' : c3 = [Value.bool x.2.2] := h3
  have h4' : c4 = [Value.int .i64 x.2.1.1] := h4
  have h6' : c6 = [Value.int .i64 x.2.1.2.1] := h6
  have h8' : c8 = [Value.int .i64 x.2.1.2.2.1] := h8
  have h9' : c9 = [Value.int .u64 x.2.1.2.2.2] := h9
  subst h0' h3' h4' h6' h8' h9'
  rfl
theorem kS_M (w : World) (base : Nat) (ok : Nat → Prop) (x : Slt) : kS.M w base ok x (encS x) :=
  ⟨[.string x.1], _, rfl, rfl, ⟨[.int .i64 x.2.1.1, .int .i64 x.2.1.2.1, .int .i64 x.2.1.2.2.1, .int .u64 x.2.1.2.2.2], [.bool x.2.2], rfl, ⟨[.int .i64 x.2.1.1], _, rfl, rfl, ⟨[.int .i64 x.2.1.2.1], _, rfl, rfl, ⟨[.int .i64 x.2.1.2.2.1], [.int .u64 x.2.1.2.2.2], rfl, rfl, rfl⟩⟩⟩, rfl⟩⟩
theorem kS_KM {w : World} {base : Nat} {ok : Nat → Prop} {x : Slt} {cs : List Value} (h : kS.K w x cs) : kS.M w base ok x cs := by rw [kS_K h]; exact kS_M _ _ _ x
theorem kS_E (w : World) (b : Nat) (ok : Nat → Prop) (x : Slt) (cs : List Value) (h : kS.M w b ok x cs) : cs = encS x := kS_K (kS.K_of_M h)
theorem C_slAt {w : World} {A : Option Addr} {xs : List Slt} (h : kS.C w A xs.length xs) {k : Nat} (hk : k < xs.length) : ∃ ad, A = some ad ∧ w.cell? (ad.add (k * 6)) = some (.string xs[k].1) ∧ w.cell? ⟨(ad.add (k * 6)).block, (ad.add (k * 6)).off + 1, none⟩ = some (.int .i64 xs[k].2.1.1) ∧ w.cell? ⟨(ad.add (k * 6)).block, (ad.add (k * 6)).off + 2, none⟩ = some (.int .i64 xs[k].2.1.2.1) ∧
    w.cell? ⟨(ad.add (k * 6)).block, (ad.add (k * 6)).off + 3, none⟩ = some (.int .i64 xs[k].2.1.2.2.1) ∧ w.cell? ⟨(ad.add (k * 6)).block, (ad.add (k * 6)).off + 4, none⟩ = some (.int .u64 xs[k].2.1.2.2.2) ∧ w.cell? ⟨(ad.add (k * 6)).block, (ad.add (k * 6)).off + 5, none⟩ = some (.bool xs[k].2.2) := by
  obtain ⟨ad, c, e, hl, hK, hc⟩ := ReadsRow.get_ h zS (k : Int) (by omega) (by omega)
  have hx : xs.getD k zS = xs[k] := by simp [hk, List.getD_eq_getElem?_getD]
  have h1 := kS_K hK
  rw [Int.toNat_natCast, hx] at h1
  subst h1
  have hc' : ∀ (j : Nat) u, (encS xs[k])[j]? = some u → w.cell? (ad.add (k * 6 + j)) = some u := hc
  exact ⟨ad, e, hc' 0 _ rfl, by rw [← add_field _ _ 1 (by omega)]; exact hc' 1 _ rfl, by rw [← add_field _ _ 2 (by omega)]; exact hc' 2 _ rfl, by rw [← add_field _ _ 3 (by omega)]; exact hc' 3 _ rfl, by rw [← add_field _ _ 4 (by omega)]; exact hc' 4 _ rfl, by rw [← add_field _ _ 5 (by omega)]; exact hc' 5 _ rfl⟩
theorem eqLoc (d : Nat) (w : World) (x0 y0 : Int) (x1 y1 : Int) (x2 y2 : Int) (x3 y3 : Int) :
    (Op.equalIn (d + 2) 31 (.agg #[.int .i64 x0, .int .i64 x1, .int .i64 x2, .int .u64 x3]) (.agg #[.int .i64 y0, .int .i64 y1, .int .i64 y2, .int .u64 y3])).run Try.prog w = .ok (x0 == y0 && (x1 == y1 && (x2 == y2 && (x3 == y3)))) w := by
  refine eqA_of Try.underlying31 (by kernel_rfl) ?_
  refine eqf_cons (by rfl) (by go_simp; rfl) (by go_simp; rfl) (by go_simp) ?_
  refine eqf_cons (by rfl) (by go_simp; rfl) (by go_simp; rfl) (by go_simp) ?_
  refine eqf_cons (by rfl) (by go_simp; rfl) (by go_simp; rfl) (by go_simp) ?_
  exact eqf_last (by rfl) (by go_simp; rfl) (by go_simp; rfl) (by go_simp)
theorem eqSlot (d : Nat) (w : World) (x0 y0 : ByteArray) (x1 y1 : Int) (x2 y2 : Int) (x3 y3 : Int) (x4 y4 : Int) (x5 y5 : Bool) :
    (Op.equalIn (d + 3) 57 (.agg #[.string x0, .int .i64 x1, .int .i64 x2, .int .i64 x3, .int .u64 x4, .bool x5]) (.agg #[.string y0, .int .i64 y1, .int .i64 y2, .int .i64 y3, .int .u64 y4, .bool y5])).run Try.prog w = .ok (x0.toList == y0.toList && ((x1 == y1 && (x2 == y2 && (x3 == y3 && (x4 == y4)))) && (x5 == y5))) w := by
  refine eqA_of Try.underlying57 (by kernel_rfl) ?_
  refine eqf_cons (by rfl) (by go_simp; rfl) (by go_simp; rfl) (by go_simp) ?_
  refine eqf_cons (by rfl) (by go_simp) (by go_simp) (eqLoc (d + 0) w _ _ _ _ _ _ _ _) ?_
  exact eqf_last (by rfl) (by go_simp; rfl) (by go_simp; rfl) (by go_simp)
/-- Which key has a place. -/
def occ (T : List Slt) (i : Nat) : Option ByteArray := match T[i]? with
  | some s => if s.2.2 = true then some s.1 else none
  | none => none
/-- The directory at block p. -/
def DirAt (w : World) (A : Nat → Prop) (p : Nat) (T : List Slt) (many : Int) : Prop :=
  A p ∧ (∀ k, A k → k < w.heap.size) ∧ ∃ v, w.heap[p]? = some (.cells #[v, .int .i64 many] 54) ∧ kS.R 57 w 0 (fun k => A k ∧ k ≠ p) v T
section
variable {w w' : World} {A S : Nat → Prop} {p : Nat} {T : List Slt} {many : Int}
theorem DirAt.frm (h : DirAt w A p T many) (hf : Frm S w w') (hn : ∀ k, A k → ¬ S k) : DirAt w' A p T many := by
  obtain ⟨h1, h2, v, h3, h4⟩ := h
  exact ⟨h1, fun k hk => Nat.lt_of_lt_of_le (h2 k hk) hf.size, v, hf.keeps h3 (hn _ h1), Kd.R_step h4 (fun k hk hlt => hf.block k hlt (hn k hk.1))⟩
theorem DirAt.below (h : DirAt w A p T many) (hb : Below w.heap.size w w') : DirAt w' A p T many := h.frm (S := None') (Frm.of_new hb) (fun _ _ x => x)
end
theorem cells2d {w : World} {s : Nat} {v0 v1 : Value} {t : TypeId} (h : w.heap[s]? = some (.cells #[v0, v1] t)) : w.cell? ⟨s, 0, none⟩ = some v0 ∧ w.cell? ⟨s, 1, none⟩ = some v1 ∧ ∀ i, w.frozen? ⟨s, i, none⟩ = false := by
  refine ⟨?_, ?_, fun i => ?_⟩ <;> simp [World.cell?, World.frozen?, h]
theorem dir_Len.calls (w : World) (A : Nat → Prop) (p : Nat) (T : List Slt) (many : Int) (h : DirAt w A p T many) :
    Calls Try.prog 17 #[.pointer (some ⟨p, 0, none⟩)] w fun e w' => e = .returned (.int .i64 many) ∧ w = w' := by
  obtain ⟨h1, h2, v, h3, h4⟩ := h
  obtain ⟨c0, c1, fr⟩ := cells2d h3
  clear h1 h2 h3 h4
  go_enter Try.func17, Try.ntmps17
  go_wp2_with fail
  go_ret
  exact ⟨rfl, rfl⟩
theorem dir_Cap.calls (w : World) (A : Nat → Prop) (p : Nat) (T : List Slt) (many : Int) (h : DirAt w A p T many) :
    Calls Try.prog 18 #[.pointer (some ⟨p, 0, none⟩)] w fun e w' => e = .returned (.int .i64 T.length) ∧ w = w' := by
  obtain ⟨h1, h2, v, h3, h4⟩ := h
  obtain ⟨A0, c, rfl⟩ := Kd.R_slice h4
  obtain ⟨c0, c1, fr⟩ := cells2d h3
  clear h1 h2 h3 h4
  go_enter Try.func18, Try.ntmps18
  go_wp2_with fail
  go_ret
  exact ⟨rfl, rfl⟩
theorem next_num (n j i : Nat) (hn : n = 2 ^ j) (hj : j ≤ 30) (hi : i < n) : Go.bits .and .i64 (wrap64 ((i : Int) + 1)) (wrap64 ((n : Int) - 1)) = (((i + 1) % n : Nat) : Int) := by
  obtain ⟨h1, h0⟩ := pow30 j hj
  rw [← hn] at h1 h0
  rw [wrap64_in (by omega) (by omega), wrap64_in (by omega) (by omega)]
  rw [show (n : Int) - 1 = ((n - 1 : Nat) : Int) by omega, show (i : Int) + 1 = ((i + 1 : Nat) : Int) by omega, and_i64 _ _ (by omega) (by omega)]
  congr 1
  rw [hn, Nat.and_two_pow_sub_one_eq_mod]
theorem dir_next.calls (w : World) (A : Nat → Prop) (p : Nat) (T : List Slt) (many : Int) (h : DirAt w A p T many) (j : Nat) (hj : j ≤ 30) (hT : T.length = 2 ^ j) (i : Nat) (hi : i < T.length) :
    Calls Try.prog 27 #[.pointer (some ⟨p, 0, none⟩), .int .i64 i] w fun e w' => e = .returned (.int .i64 ((i + 1) % T.length : Nat)) ∧ w = w' := by
  obtain ⟨h1, h2, v, h3, h4⟩ := h
  obtain ⟨A0, c, rfl⟩ := Kd.R_slice h4
  obtain ⟨c0, c1, fr⟩ := cells2d h3
  have HNX := Aside0.mk (next_num T.length j i hT hj hi)
  clear h1 h2 h3 h4 hT
  go_enter Try.func27, Try.ntmps27
  go_wp2_with fail
  go_ret
  rw [← HNX.out]
  exact ⟨rfl, rfl⟩
theorem occ_at {T : List Slt} {i : Nat} (hi : i < T.length) : occ T i = if T[i].2.2 = true then some T[i].1 else none := by
  unfold occ
  rw [List.getElem?_eq_getElem hi]
theorem walk_dist {n h d : Nat} (hh : h < n) (hd : d < n) : ((h + d) % n + n - h) % n = d := by
  rcases Nat.lt_or_ge (h + d) n with h1 | h1
  · rw [Nat.mod_eq_of_lt h1, show h + d + n - h = d + n by omega, Nat.add_mod_right, Nat.mod_eq_of_lt hd]
  · rw [Nat.mod_eq_sub_mod h1, Nat.mod_eq_of_lt (a := h + d - n) (by omega), show h + d - n + n - h = d by omega, Nat.mod_eq_of_lt hd]
theorem walk_next {n h d : Nat} : ((h + d) % n + 1) % n = (h + (d + 1)) % n := by rw [Nat.mod_add_mod, Nat.add_assoc]
set_option maxHeartbeats 3200000 in
set_option maxRecDepth 100000 in
theorem dir_find.calls (w : World) (A : Nat → Prop) (p : Nat) (T : List Slt) (many : Int) (h : DirAt w A p T many) (j : Nat) (hj : j ≤ 30) (hT : T.length = 2 ^ j) (hg : Gap (occ T) T.length) (k : ByteArray) (hk : k.size ≤ 4611686018427387904) :
    Calls Try.prog 23 #[.pointer (some ⟨p, 0, none⟩), .string k] w fun e w' => e = .returned (.int .i64 (fnd (occ T) T.length (hmK T.length k) k : Nat)) ∧ Below w.heap.size w w' := by
  have H := Aside0.mk h
  obtain ⟨h1, h2, v, h3, h4⟩ := h
  obtain ⟨A0, c, rfl, hc0, hC⟩ := Kd.R_reads h4
  have H3 := Aside0.mk h3
  have HC := Aside0.mk hC
  have hp0 : 0 < T.length := by rw [hT]; exact Nat.two_pow_pos j
  have hh : hmK T.length k < T.length := Nat.mod_lt _ hp0
  have HPL := Aside0.mk (fun w => place_calls k hk j hj w)
  rw [← hT] at HPL
  have HT := Aside0.mk hT
  have HDL := Aside0.mk (dst_lt (k := k) hh hg)
  have HHH := Aside0.mk hh
  obtain ⟨hm, hhm⟩ : ∃ hm, hmK T.length k = hm := ⟨_, rfl⟩
  rw [hhm] at HPL HDL HHH ⊢
  obtain ⟨c0, c1, fr⟩ := cells2d h3
  have HP0 := Aside0.mk hp0
  clear h1 h2 h3 h4 hC hg hT hh hhm hp0
  have heq := eqSlot
  go_enter Try.func23, Try.ntmps23
  go_wp2_with fail
  refine (HPL.out _).mono ?_
  rintro e w1 ⟨rfl, b1⟩
  have B1 := Aside0.mk b1
  clear b1 c0 c1 fr
  go_wp2_with fail
  go_loopw [5] (fun v5 wr => ∃ d : Nat, d ≤ dst (occ T) T.length hm k ∧ v5 = .int .i64 ((hm + d) % T.length : Nat) ∧ Aside0 (Below w.heap.size w wr)) (fun v5 _ => T.length - ((intOf v5).toNat + T.length - hm) % T.length)
  case atStart => exact ⟨0, Nat.zero_le _, by rw [Nat.add_zero, Nat.mod_eq_of_lt HHH.out], B1⟩
  case round =>
    clear B1
    obtain ⟨d, hd, rfl, HB⟩ := hrel
    have hdl := HDL.out
    have hdn : d < T.length := by omega
    have hi : (hm + d) % T.length < T.length := Nat.mod_lt _ HP0.out
    have HWD := Aside0.mk (walk_dist HHH.out hdn)
    have HWN := Aside0.mk (walk_next (n := T.length) (h := hm) (d := d))
    have HST := Aside0.mk (fun hlt : d < dst (occ T) T.length hm k => dst_before hlt)
    have HSE := Aside0.mk (fun he : d = dst (occ T) T.length hm k => (by subst he; exact dst_stops HDL.out : stp (occ T) k ((hm + d) % T.length) = true))
    have HFN := Aside0.mk (fun he : d = dst (occ T) T.length hm k => (by subst he; rfl : fnd (occ T) T.length hm k = (hm + d) % T.length))
    have HOC := Aside0.mk (occ_at hi)
    generalize (hm + d) % T.length = i at hi HWD HWN HST HSE HFN HOC ⊢
    obtain ⟨ad, rfl, q0, q1, q2, q3, q4, q5⟩ := C_slAt (Kd.C_below HC.out HB.out) hi
    obtain ⟨c0, c1, fr⟩ := cells2d (blk_below H3.out HB.out)
    have i0 : 0 ≤ (i : Int) := by omega
    have i1 : (i : Int) < (T.length : Int) := by omega
    generalize T[i] = s at q0 q1 q2 q3 q4 q5 HOC
    obtain ⟨key, ⟨l0, l1, l2, l3⟩, is⟩ := s
    simp only at q0 q1 q2 q3 q4 q5 HOC
    by_cases hlt : d < dst (occ T) T.length hm k
    · obtain ⟨k', h5, h6⟩ := stp_not (HST.out hlt)
      rw [HOC.out] at h5
      have his : is = true := by
        by_cases hx : is = true
        · exact hx
        · rw [if_neg hx] at h5; cases h5
      subst his
      rw [if_pos rfl] at h5
      injection h5 with h5
      subst h5
      have e1 : (key.toList == k.toList) = false := beq_eq_false_iff_ne.2 (fun e => h6 (WideShapes.bytes_inj (by rw [← Lib.toList_data, ← Lib.toList_data]; exact e)))
      clear h6
      go_wp2
      repeat (go_quiet (fail); try go_wp2)
      go_roundw
      case rel => exact ⟨d + 1, by omega, by rw [← HWN.out, ← next_num T.length j i HT.out hj hi]; rfl, ⟨by repeat (first | (with_reducible first | exact HB.out | apply below_alloc | apply pw_below_drewN | apply below_drew1) | exact HB.out)⟩⟩
      case measure =>
        have h7 := walk_dist HHH.out (show d + 1 < T.length by omega)
        have h8 := next_num T.length j i HT.out hj hi
        have h9 := HWD.out
        have hI : ∀ z : Int, intOf (Value.int .i64 z) = z := fun z => rfl
        show T.length - ((intOf (Value.int .i64 (Go.bits .and .i64 (wrap64 ((i : Int) + 1)) (wrap64 ((T.length : Int) - 1))))).toNat + T.length - hm) % T.length < T.length - ((intOf (Value.int .i64 (i : Int))).toNat + T.length - hm) % T.length
        rw [hI, hI, h8, Int.toNat_natCast, Int.toNat_natCast, HWN.out, h7, h9]
        omega
    · have he : d = dst (occ T) T.length hm k := by omega
      have h5 := HSE.out he
      unfold stp at h5
      rw [HOC.out] at h5
      have HRES := Aside0.mk (HFN.out he)
      cases is with
      | false =>
        clear h5 he
        go_wp2
        repeat (go_quiet (fail); try go_wp2)
        go_ret
        rw [HRES.out]
        exact ⟨rfl, by repeat (first | (with_reducible first | exact HB.out | apply below_alloc | apply pw_below_drewN | apply below_drew1) | exact HB.out)⟩
      | true =>
        rw [if_pos rfl] at h5
        have hkk : key = k := by simpa using h5
        subst hkk
        clear h5 he
        go_wp2
        repeat (go_quiet (fail); try go_wp2)
        go_ret
        rw [HRES.out]
        exact ⟨rfl, by repeat (first | (with_reducible first | exact HB.out | apply below_alloc | apply pw_below_drewN | apply below_drew1) | exact HB.out)⟩
end Go.Proofs.Ytcpjfpbfopkngaa.Thw
