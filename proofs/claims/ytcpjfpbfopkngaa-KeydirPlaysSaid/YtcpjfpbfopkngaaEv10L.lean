/- Several texts of mine in one (Ev10u, Ev10v, Ev10w, Ev10x, Ev10y, Ev10z, Ev10aa, Ev10k). -/
import Derived.Test.YtcpjfpbfopkngaaEv10q
import Derived.Test.YtcpjfpbfopkngaaWTab
import Derived.Test.YtcpjfpbfopkngaaEv10m
import Derived.Test.YtcpjfpbfopkngaaEv10p
import Derived.Test.YtcpjfpbfopkngaaEv10s
import Derived.Deep.CutRange
import Derived.Deep.CutBlock
/-! ## Layer 10: the document's directory: the object, New, at, Get. -/
namespace Go.Proofs.Ytcpjfpbfopkngaa.Thw
open Go Go.RowKit Go.Proofs.YtcpjfpbfopkngaaW.PrintWords Go.Proofs.YtcpjfpbfopkngaaW.PrintLast Go.Proofs.YtcpjfpbfopkngaaW.PrintMore
set_option linter.unusedVariables false
set_option linter.unusedSimpArgs false
theorem infoR : (Try.prog.info? 59).map (fun i => (i.zero, i.size, i.bytes)) = some (some (.agg #[.string ⟨#[]⟩, .int .i64 0, .int .i64 0, .int .i64 0, .int .u64 0, .bool false]), 6, 56) := by kernel_rfl
/-- The document's directory at block p. -/
def RefAt (w : World) (A : Nat → Prop) (p : Nat) (T : List Slt) : Prop :=
  A p ∧ (∀ k, A k → k < w.heap.size) ∧ ∃ v, w.heap[p]? = some (.cells #[v] 43) ∧ kS.R 59 w 0 (fun k => A k ∧ k ≠ p) v T
section
variable {w w' : World} {A S : Nat → Prop} {p : Nat} {T : List Slt}
theorem RefAt.frm (h : RefAt w A p T) (hf : Frm S w w') (hn : ∀ k, A k → ¬ S k) : RefAt w' A p T := by
  obtain ⟨h1, h2, v, h3, h4⟩ := h
  exact ⟨h1, fun k hk => Nat.lt_of_lt_of_le (h2 k hk) hf.size, v, hf.keeps h3 (hn _ h1), Kd.R_step h4 (fun k hk hlt => hf.block k hlt (hn k hk.1))⟩
theorem RefAt.below (h : RefAt w A p T) (hb : Below w.heap.size w w') : RefAt w' A p T := h.frm (S := None') (Frm.of_new hb) (fun _ _ x => x)
theorem RefAt.form (h : RefAt w A p T) (hT : 0 < T.length) :
    ∃ g c, w.heap[p]? = some (.cells #[.slice (some ⟨g, 0, none⟩) T.length c] 43) ∧ kS.R 59 w 0 (fun k => A k ∧ k ≠ p) (.slice (some ⟨g, 0, none⟩) T.length c) T := by
  obtain ⟨h1, h2, v, h3, h4⟩ := h
  obtain ⟨g, cap, rfl, _, _, _⟩ := Kd.R_form h4 hT
  exact ⟨g, cap, h3, h4⟩
theorem ref_set {g c : Nat} (h1 : A p) (h2 : ∀ k, A k → k < w.heap.size) (h3 : w.heap[p]? = some (.cells #[.slice (some ⟨g, 0, none⟩) T.length c] 43))
    (h4 : kS.R 59 w 0 (fun k => A k ∧ k ≠ p) (.slice (some ⟨g, 0, none⟩) T.length c) T) (i : Nat) (hi : i < T.length) (s : Slt) :
    RefAt (w.setCells g (i * 6) (encS s)) A p (T.set i s) ∧ Frm A w (w.setCells g (i * 6) (encS s)) := by
  have hg := h4.1 g rfl
  have hf := setCells_frm (encS s) w g (i * 6)
  have hR := R_setK (enc := encS) kS_E (fun w b o x => kS_M w b o x) (fun _ => rfl) h4 i hi s
  exact ⟨⟨h1, fun k hk => Nat.lt_of_lt_of_le (h2 k hk) hf.size, _, hf.keeps h3 (fun e => hg.2 e.symm), hR⟩, hf.mono (fun i _ e => by rw [e]; exact hg.1)⟩
end
theorem cells1d {w : World} {s : Nat} {v0 : Value} {t : TypeId} (h : w.heap[s]? = some (.cells #[v0] t)) : w.cell? ⟨s, 0, none⟩ = some v0 ∧ ∀ i, w.frozen? ⟨s, i, none⟩ = false := by
  refine ⟨?_, fun i => ?_⟩ <;> simp [World.cell?, World.frozen?, h]
theorem ref_frozen {w : World} {A : Nat → Prop} {g n c : Nat} {T : List Slt} (h : kS.R 59 w 0 A (.slice (some ⟨g, 0, none⟩) n c) T) (o : Nat) : w.frozen? ⟨g, o, none⟩ = false := by
  obtain ⟨inner, hown⟩ := Kd.R_own h
  obtain ⟨cells, hc⟩ := own_typed hown g rfl
  simp [World.frozen?, hc]
theorem ref_slot {w : World} {A : Nat → Prop} {g n c : Nat} {T : List Slt} (h : kS.R 59 w 0 A (.slice (some ⟨g, 0, none⟩) n c) T) (j : Nat) (hj : j < T.length) :
    w.cell? ⟨g, j * 6, none⟩ = some (.string T[j].1) ∧ w.cell? ⟨g, j * 6 + 1, none⟩ = some (.int .i64 T[j].2.1.1) ∧ w.cell? ⟨g, j * 6 + 2, none⟩ = some (.int .i64 T[j].2.1.2.1) ∧ w.cell? ⟨g, j * 6 + 3, none⟩ = some (.int .i64 T[j].2.1.2.2.1) ∧ w.cell? ⟨g, j * 6 + 4, none⟩ = some (.int .u64 T[j].2.1.2.2.2) ∧ w.cell? ⟨g, j * 6 + 5, none⟩ = some (.bool T[j].2.2) := by
  obtain ⟨_, _, hC⟩ := Kd.R_reads' h
  obtain ⟨ad, e, x0, x1, x2, x3, x4, x5⟩ := C_slAt hC hj
  cases e
  have e2 : (⟨g, 0, none⟩ : Addr).add (j * 6) = ⟨g, j * 6, none⟩ := by
    have : (⟨g, 0, none⟩ : Addr).add (j * 6) = ⟨g, 0 + j * 6, none⟩ := by unfold Addr.add; split <;> simp_all
    rwa [Nat.zero_add] at this
  rw [e2] at x0 x1 x2 x3 x4 x5
  exact ⟨x0, x1, x2, x3, x4, x5⟩
theorem zeroSlotsR (w : World) : (zeroValue 59).run Try.prog w = .ok (.agg #[.string ⟨#[]⟩, .int .i64 0, .int .i64 0, .int .i64 0, .int .u64 0, .bool false]) w := by kernel_rfl
def RNewPost (w : World) (e : Ending) (w' : World) : Prop := ∃ p, e = .returned (.pointer (some ⟨p, 0, none⟩)) ∧ RefAt w' (fun k => w.heap.size ≤ k ∧ k < w'.heap.size) p (List.replicate 8 zS) ∧ Below w.heap.size w w'
set_option maxHeartbeats 1600000 in
set_option maxRecDepth 100000 in
theorem ref_New.calls (w : World) : Calls Try.prog 9 #[] w (RNewPost w) := by
  go_enter Try.func9, Try.ntmps9
  go_wp2_with ((with_reducible refine gate_dst (N := 1) rfl ?_); refine Kd.R_make kS (w0 := w) w.heap.size 59 rfl (N := 1) rfl 41 _ _ rfl (8 : Int) rfl rfl Try.underlying41 (.agg #[.string ⟨#[]⟩, .int .i64 0, .int .i64 0, .int .i64 0, .int .u64 0, .bool false]) 56 infoR rfl (by decide) (by decide) zS (ok := fun _ => True) (okp := fun _ => False) ?aM (fun _ x => x.elim) trivial ?a0 ?aL (Below.refl _ _) (Nat.le_refl _) ?_; (case aM => exact kS_M _ _ _ zS); (case a0 => omega); (case aL => omega); intro v1 w3 hR3 hB3 hg3 hv3; obtain ⟨g, cap, rfl, _, _, _⟩ := Kd.R_form hR3 (by simp); obtain ⟨n8, hn8⟩ : ∃ n_ : Nat, (List.replicate (8 : Int).toNat zS).length = n_ := ⟨_, rfl⟩; rw [hn8] at hR3 ⊢; have HN8 := Aside0.mk hn8; have HR3 := Aside0.mk hR3; have HB3 := Aside0.mk hB3; clear hR3 hB3 hg3 hv3 hn8)
  go_ret
  refine ⟨w3.heap.size, rfl, ⟨⟨HB3.out.size, by simp⟩, fun k hk => hk.2, _, blk_new _ _, ?_⟩, HB3.out.alloc HB3.out.size _⟩
  have h1 : (List.replicate (8 : Int).toNat zS) = List.replicate 8 zS := rfl
  have h2 := Kd.R_alloc (Kd.R_lower (Kd.R_mono (Kd.R_bound HR3.out) (ok' := fun k => w.heap.size ≤ k ∧ k < w3.heap.size) (fun k hk => ⟨hk.2.1, hk.2.2.1⟩)) (Nat.zero_le _)) (.cells #[.slice (some ⟨g, 0, none⟩) n8 cap] 43)
  rw [h1] at h2
  exact Kd.R_mono h2 (fun k hk => ⟨⟨hk.1, by simp; omega⟩, by omega⟩)
/-- A key's place, as the document finds it: the first that has it. -/
def hitB (k : ByteArray) (s : Slt) : Bool := s.2.2 && (s.1.toList == k.toList)
def atI (T : List Slt) (k : ByteArray) : Int := if T.findIdx (hitB k) < T.length then (T.findIdx (hitB k) : Nat) else -1
theorem atI_hit {T : List Slt} {k : ByteArray} {i : Nat} (hi : i < T.length) (hb : ∀ u (h : u < i), hitB k (T[u]'(by omega)) = false) (h : hitB k T[i] = true) : atI T k = i := by
  have e : T.findIdx (hitB k) = i := (List.findIdx_eq hi).2 ⟨h, fun j hj => by simpa using hb j hj⟩
  unfold atI
  rw [e, if_pos hi]
theorem atI_miss {T : List Slt} {k : ByteArray} (hb : ∀ u (h : u < T.length), hitB k T[u] = false) : atI T k = -1 := by
  unfold atI
  rw [if_neg]
  intro h
  have := List.findIdx_getElem (w := h)
  rw [hb _ h] at this
  cases this
set_option maxHeartbeats 3200000 in
set_option maxRecDepth 100000 in
theorem ref_at.calls (w : World) (A : Nat → Prop) (p : Nat) (T : List Slt) (h : RefAt w A p T) (hl : T.length ≤ 1000000) (k : ByteArray) :
    Calls Try.prog 25 #[.pointer (some ⟨p, 0, none⟩), .string k] w fun e w' => e = .returned (.int .i64 (atI T k)) ∧ w = w' := by
  obtain ⟨h1, h2, v, h3, h4⟩ := h
  obtain ⟨A0, c, rfl, hc0, hC⟩ := Kd.R_reads h4
  have HC := Aside0.mk hC
  have HLL := Aside0.mk hl
  obtain ⟨c0, fr⟩ := cells1d h3
  clear h1 h2 h3 h4 hC hl
  go_enter Try.func25, Try.ntmps25
  go_wp2_with fail
  go_loopw [5] (fun v5 wr => ∃ i : Nat, i ≤ T.length ∧ v5 = .int .i64 (i : Nat) ∧ w = wr ∧ Aside0 (∀ u (h : u < T.length), u < i → hitB k T[u] = false)) (fun v5 _ => T.length - (intOf v5).toNat)
  case atStart => exact ⟨0, Nat.zero_le _, rfl, rfl, ⟨fun u _ hu => by omega⟩⟩
  case round =>
    obtain ⟨i, hi, rfl, rfl, HB⟩ := hrel
    by_cases hlt : i < T.length
    · have d1 : decide ((i : Int) < (T.length : Int)) = true := decide_eq_true (by omega)
      obtain ⟨ad, rfl, q0, q1, q2, q3, q4, q5⟩ := C_slAt HC.out hlt
      have i0 : 0 ≤ (i : Int) := by omega
      have i1 : (i : Int) < (T.length : Int) := by omega
      have HIT := Aside0.mk (show hitB k T[i] = (T[i].2.2 && (T[i].1.toList == k.toList)) from rfl)
      have HDN := Aside0.mk (fun h : hitB k T[i] = true => atI_hit hlt (fun u hu => HB.out u (by omega) hu) h)
      have HGO := Aside0.mk (fun h : hitB k T[i] = false => (fun (u : Nat) (hu : u < T.length) (hui : u < i + 1) => (by
        rcases Nat.lt_or_ge u i with h5 | h5
        · exact HB.out u hu h5
        · obtain rfl : u = i := by omega
          exact h : hitB k T[u] = false)))
      generalize hs : T[i] = s at q0 q1 q2 q3 q4 q5 HIT HDN HGO
      obtain ⟨key, ⟨l0, l1, l2, l3⟩, is⟩ := s
      simp only at q0 q1 q2 q3 q4 q5 HIT HDN HGO
      clear HB hs
      cases is with
      | false =>
        have hf : hitB k (key, (l0, l1, l2, l3), false) = false := HIT.out
        have HG2 := Aside0.mk (HGO.out hf)
        clear HGO HDN HIT hf
        go_wp2_with fail
        go_roundw
        case rel => exact ⟨i + 1, by omega, by rw [wrap64_in (by omega) (by have := HLL.out; omega)]; rfl, trivial, HG2⟩
        case measure =>
          have hI : ∀ z : Int, intOf (Value.int .i64 z) = z := fun z => rfl
          have := HLL.out
          rw [hI, hI, wrap64_in (by omega) (by omega)]
          omega
      | true =>
        cases he : key.toList == k.toList with
        | false =>
          have hf : hitB k (key, (l0, l1, l2, l3), true) = false := by rw [HIT.out, he]; rfl
          have HG2 := Aside0.mk (HGO.out hf)
          clear HGO HDN HIT hf
          go_wp2_with fail
          go_roundw
          case rel => exact ⟨i + 1, by omega, by rw [wrap64_in (by omega) (by have := HLL.out; omega)]; rfl, trivial, HG2⟩
          case measure =>
            have hI : ∀ z : Int, intOf (Value.int .i64 z) = z := fun z => rfl
            have := HLL.out
            rw [hI, hI, wrap64_in (by omega) (by omega)]
            omega
        | true =>
          have HRES := Aside0.mk (HDN.out (by rw [HIT.out, he]; rfl))
          clear HGO HDN HIT
          go_wp2_with fail
          go_ret
          rw [HRES.out]
          exact ⟨rfl, rfl⟩
    · have d1 : decide ((i : Int) < (T.length : Int)) = false := decide_eq_false (by omega)
      have HRES := Aside0.mk (atI_miss (k := k) (T := T) fun u hu => HB.out u hu (by omega))
      go_wp2_with fail
      go_ret
      rw [HRES.out]
      exact ⟨rfl, rfl⟩
end Go.Proofs.Ytcpjfpbfopkngaa.Thw
/-! ## Layer 10: the document's place and lay (printed by gen10v.py). -/
namespace Go.Proofs.Ytcpjfpbfopkngaa.Thw
open Go Go.RowKit Go.Proofs.Ytcpjfpbfopkngaa.Ref Go.Proofs.YtcpjfpbfopkngaaW.PrintWords Go.Proofs.YtcpjfpbfopkngaaW.PrintLast Go.Proofs.YtcpjfpbfopkngaaW.PrintMore
set_option linter.unusedVariables false
set_option linter.unusedSimpArgs false
theorem ev_rsum (s : ByteArray) (hs : s.size ≤ 4611686018427387904) : ∀ (d : Nat) (n i : Nat), n < 18446744073709551616 → i + d = (L s).length →
    Ev (fun k => thwartref09_Sum.l0 k s (n : Int) (i : Int)) (sumL ((L s).drop i) n : Int)
  | 0, n, i, hn, hi => by
    have hl := L_length s
    refine Ev.step (f := fun k => some (n : Int)) (fun k => ?_) ?_
    · simp only [thwartref09_Sum.l0]
      rw [if_neg (by omega)]
    · rw [List.drop_of_length_le (by omega)]
      exact Ev.now _
  | d + 1, n, i, hn, hi => by
    have hl := L_length s
    have h : i < (L s).length := by omega
    refine Ev.step (f := fun k => thwartref09_Sum.l0 k s (sumS n (L s)[i] : Int) ((i + 1 : Nat) : Int)) (fun k => ?_) ?_
    · simp only [thwartref09_Sum.l0]
      rw [if_pos (by omega), if_pos (by omega), sum_step n hn s i h, wrap64_in (by omega) (by omega)]
      exact Eq.refl _
    · rw [drop_at _ _ h, sumL_cons]
      exact ev_rsum s hs d (sumS n (L s)[i]) (i + 1) (sumS_lt _ _) (by omega)
theorem ev_rSum (s : ByteArray) (hs : s.size ≤ 4611686018427387904) : Ev (fun k => thwartref09_Sum.f k s) (sumOf s : Int) := by
  have := ev_rsum s hs (L s).length 14695981039346656037 0 (by omega) (by omega)
  rw [List.drop_zero] at this
  unfold sumOf thwartref09_Sum.f
  exact this
theorem rmix_N (n : Nat) (h : n < 18446744073709551616) : thwartref09_Mix.f (n : Int) = some (mixN n : Int) := by
  have d : ∀ m : Nat, m < 18446744073709551616 → IntKind.u64.wrap (Int.tdiv (m : Int) 8589934592) = (m : Int) / 8589934592 := fun m hm => by
    rw [Int.tdiv_eq_ediv_of_nonneg (by omega), u64_in (by omega) (by omega)]
  have st : ∀ m : Nat, m < 18446744073709551616 → Go.bits .xor .u64 (m : Int) (IntKind.u64.wrap (Int.tdiv (m : Int) 8589934592)) = (xsN m : Int) := fun m hm => by rw [d m hm, xs_u64 m hm]
  unfold thwartref09_Mix.f mixN
  rw [st n h, show (18397679294719823053 : Int) = ((18397679294719823053 : Nat) : Int) from rfl, mul_u64, st _ (mod64 _), show (14181476777654086739 : Int) = ((14181476777654086739 : Nat) : Int) from rfl, mul_u64, st _ (mod64 _)]
theorem dbl (i : Nat) (h : i ≤ 30) : wrap64 (2 * ((2 ^ i : Nat) : Int)) = ((2 ^ (i + 1) : Nat) : Int) := by
  obtain ⟨h1, h0⟩ := pow30 i h
  rw [wrap64_in (by omega) (by omega), Nat.pow_succ]; omega
theorem ev_rplace_yes (s : ByteArray) (hs : s.size ≤ 4611686018427387904) (j : Nat) (hj : j ≤ 30) : ∀ (d i : Nat), i + d = j →
    Ev (fun k => thwartref09_Place.l0 k s ((2 ^ j : Nat) : Int) ((2 ^ i : Nat) : Int)) ((hN s % 2 ^ j : Nat) : Int)
  | 0, i, e => by
    obtain rfl : i = j := by omega
    obtain ⟨h1, h0⟩ := pow30 i hj
    refine Ev.step (f := fun k => ((thwartref09_Sum.f k s).bind fun t110 => ((thwartref09_Mix.f t110).bind fun t111 => (if (IntKind.u64.wrap (((2 ^ i : Nat) : Int))) = 0 then (none) else (some (wrap64 (Int.tmod t111 (IntKind.u64.wrap (((2 ^ i : Nat) : Int)))))))))) (fun k => ?_) ?_
    · simp only [thwartref09_Place.l0]
      rw [if_pos (by omega), if_pos trivial]
    · refine Ev.bind (ev_rSum s hs) ?_
      refine ev_bind_now (rmix_N _ (sumOf_lt s)) ?_
      rw [u64_in (by omega) (by omega)]
      refine ev_if_neg (by omega) ?_
      refine ev_some fun k => ?_
      have h3 : mixN (sumOf s) % 2 ^ i < 2 ^ i := Nat.mod_lt _ h0
      rw [Int.tmod_eq_emod_of_nonneg (by omega), ← Int.natCast_emod, wrap64_in (by omega) (by omega)]
      unfold hN
      exact Eq.refl _
  | d + 1, i, e => by
    obtain ⟨h1, h0⟩ := pow30 i (by omega)
    have hne : 2 ^ i ≠ 2 ^ j := fun e2 => by have := Nat.pow_lt_pow_right (a := 2) (by omega) (show i < j by omega); omega
    refine Ev.step (f := fun k => thwartref09_Place.l0 k s ((2 ^ j : Nat) : Int) ((2 ^ (i + 1) : Nat) : Int)) (fun k => ?_) (ev_rplace_yes s hs j hj d (i + 1) (by omega))
    simp only [thwartref09_Place.l0]
    rw [if_pos (by omega), if_neg (by omega), dbl i (by omega)]
theorem rplace_calls (k : ByteArray) (hk : k.size ≤ 4611686018427387904) (j : Nat) (hj : j ≤ 30) (w : World) :
    Calls Try.prog 29 #[.string k, .int .i64 ((2 ^ j : Nat) : Int)] w fun e w' => e = .returned (.int .i64 ((hmK (2 ^ j) k : Nat) : Int)) ∧ Below w.heap.size w w' := by
  obtain ⟨q, hq⟩ := Ev.rounds (ev_rplace_yes k hk j hj j 0 (by omega))
  exact (thwartref09_Place.calls q k _ _ w hq).mono fun e w' h => ⟨h.1, h.2.below⟩
theorem rem_num (n i : Nat) (hn : n ≤ 1073741824) (hi : i < n) : Int.tmod (wrap64 ((i : Int) + 1)) (n : Int) = (((i + 1) % n : Nat) : Int) := by
  rw [wrap64_in (n := (i : Int) + 1) (by omega) (by omega), Int.tmod_eq_emod_of_nonneg (by omega), show (i : Int) + 1 = ((i + 1 : Nat) : Int) by omega, ← Int.natCast_emod]
def rlay1T : Bool × List (List Nat × List Nat) := (true, [([], []), ([0], [0]), ([], []), ([2], [2]), ([3], [3]), ([4], [4]), ([5], [5]), ([1, 6], [1, 6]), ([7, 7, 0, 1, 2, 3, 4, 5, 6, 7], [7])])
def rlay1B : List Nat := [0, 1, 0, 4, 12, 28, 60, 127, 255]
theorem rlay1tab : rtab .any (opsOf Try.f26 1) = rlay1T := by kernel_rfl
theorem rlay1bits : waitsOk rlay1T.2 rlay1B = true := by kernel_rfl
def rlay4T : Bool × List (List Nat × List Nat) := (true, [([], []), ([0], [0]), ([1], [1]), ([2], [2]), ([], []), ([], []), ([3, 4, 0, 1, 2, 3, 4, 5], [3, 4]), ([6, 5, 0, 1, 2, 3, 4, 5], [5, 6])])
def rlay4B : List Nat := [0, 1, 3, 7, 0, 0, 63, 127]
theorem rlay4tab : rtab .any (opsOf Try.f26 4) = rlay4T := by kernel_rfl
theorem rlay4bits : waitsOk rlay4T.2 rlay4B = true := by kernel_rfl
set_option maxHeartbeats 12800000 in
set_option maxRecDepth 100000 in
theorem ref_lay.calls (w : World) (A : Nat → Prop) (p : Nat) (T : List Slt) (h : RefAt w A p T) (j : Nat) (hj : j ≤ 30) (hT : T.length = 2 ^ j) (hg : Gap (occ T) T.length) (key : ByteArray) (l0 l1 l2 l3 : Int) (is : Bool) (hk : key.size ≤ 4611686018427387904) (habs : ∀ i, i < T.length → occ T i ≠ some key) :
    Calls Try.prog 26 #[.pointer (some ⟨p, 0, none⟩), .agg #[.string key, .int .i64 l0, .int .i64 l1, .int .i64 l2, .int .u64 l3, .bool is]] w fun e w' => e = .returned (.tuple #[]) ∧ RefAt w' A p (lay T (key, (l0, l1, l2, l3), is)) ∧ Frm A w w' := by
  have hp0 : 0 < T.length := by rw [hT]; exact Nat.two_pow_pos j
  have hh : hmK T.length key < T.length := Nat.mod_lt _ hp0
  have HPL := Aside0.mk (fun w => rplace_calls key hk j hj w)
  rw [← hT] at HPL
  have HT := Aside0.mk hT
  have HTL := Aside0.mk (show T.length ≤ 1073741824 by rw [hT]; exact (pow30 j hj).1)
  have HDL := Aside0.mk (dst_lt (k := key) hh hg)
  have HHH := Aside0.mk hh
  have HAB := Aside0.mk habs
  have HLY := Aside0.mk (show lay T (key, (l0, l1, l2, l3), is) = T.set (fnd (occ T) T.length (hmK T.length key) key) (key, (l0, l1, l2, l3), is) from rfl)
  obtain ⟨hm, hhm⟩ : ∃ hm, hmK T.length key = hm := ⟨_, rfl⟩
  rw [hhm] at HPL HDL HHH HLY
  have HP0 := Aside0.mk hp0
  obtain ⟨wz, hwz⟩ : ∃ wz, w.alloc (.cells #[.string key, .int .i64 l0, .int .i64 l1, .int .i64 l2, .int .u64 l3, .bool is] 59) = wz := ⟨_, rfl⟩
  have BZ := Aside0.mk (show Below w.heap.size w wz by rw [← hwz]; exact below_alloc (Below.refl _ _) _)
  have XB := Aside0.mk (show wz.heap[w.heap.size]? = some (.cells #[.string key, .int .i64 l0, .int .i64 l1, .int .i64 l2, .int .u64 l3, .bool is] 59) by rw [← hwz]; exact blk_new _ _)
  have DZ := Aside0.mk (h.below BZ.out)
  have HW := Aside0.mk hwz
  obtain ⟨g, c, h3, h4⟩ := DZ.out.form hp0
  have H3 := Aside0.mk h3
  have H4 := Aside0.mk h4
  clear h hT hg hh hhm hp0 h3 h4 hwz habs
  go_enter Try.func26, Try.ntmps26
  go_upto_region 1 with (fail)
  rw [HW.out]
  clear HW
  obtain ⟨bx, hbx⟩ : ∃ bx, w.heap.size = bx := ⟨_, rfl⟩
  have HBX := Aside0.mk hbx
  rw [hbx] at XB ⊢
  clear hbx
  refine region_draw (n := 9) (S := fun W => Below wz.heap.size wz W) (ds := []) #[false, false, false, false, false, false, false, false, false] (by kernel_rfl) rfl rfl (fun W => Below wz.heap.size wz W) ((Below.refl _ _).drew) (fun W h => h) ?_
  rintro ws hws
  refine with_tabW rlay1tab rlay1bits (fun HT_ HW_ => ?_)
  have BS := Aside0.mk hws
  clear hws
  refine pure_ (i := 0) (N := some 5) (v := ?_) (a' := ?_) #[true, false, false, false, false, false, false, false, false] rfl rfl (any_of HT_.out (by kernel_rfl)) (fun _ _ _ h => h) (Or.inl ⟨by rfl, ?_⟩) ?_ ?_
  rotate_left
  · intro w'
    go_simp
    with_reducible rfl
  rotate_left
  · simp only [Act.put, List.setIfInBounds_toArray, List.set_cons_zero, List.set_cons_succ, i64_w, i32_w]
    rfl
  refine take_ (i := 1) (N := some 6) (v := ?_) (a' := ?_) #[true, true, false, false, false, false, false, false, false] rfl rfl (take_ofW HT_.out HW_.out (by kernel_rfl)) (fun _ _ _ h => h) (Or.inl ⟨by rfl, ?_⟩) BS.out ?_ ?_
  rotate_left
  · intro w' hW
    obtain ⟨b0, b1, b2, b3, b4, b5, br⟩ := cells6d (blk_below XB.out hW)
    go_simp
    with_reducible rfl
  rotate_left
  · simp only [Act.put, List.setIfInBounds_toArray, List.set_cons_zero, List.set_cons_succ, i64_w, i32_w]
    rfl
  refine pure_ (i := 2) (N := some 7) (v := ?_) (a' := ?_) #[true, true, true, false, false, false, false, false, false] rfl rfl (any_of HT_.out (by kernel_rfl)) (fun _ _ _ h => h) (Or.inl ⟨by rfl, ?_⟩) ?_ ?_
  rotate_left
  · intro w'
    go_simp
    with_reducible rfl
  rotate_left
  · simp only [Act.put, List.setIfInBounds_toArray, List.set_cons_zero, List.set_cons_succ, i64_w, i32_w]
    rfl
  refine pure_ (i := 3) (N := some 8) (v := ?_) (a' := ?_) #[true, true, true, true, false, false, false, false, false] rfl rfl (any_of HT_.out (by kernel_rfl)) (fun _ _ _ h => h) (Or.inl ⟨by rfl, ?_⟩) ?_ ?_
  rotate_left
  · intro w'
    go_simp
    with_reducible rfl
  rotate_left
  · simp only [Act.put, List.setIfInBounds_toArray, List.set_cons_zero, List.set_cons_succ, i64_w, i32_w]
    rfl
  refine pure_ (i := 4) (N := some 9) (v := ?_) (a' := ?_) #[true, true, true, true, true, false, false, false, false] rfl rfl (any_of HT_.out (by kernel_rfl)) (fun _ _ _ h => h) (Or.inl ⟨by rfl, ?_⟩) ?_ ?_
  rotate_left
  · intro w'
    go_simp
    with_reducible rfl
  rotate_left
  · simp only [Act.put, List.setIfInBounds_toArray, List.set_cons_zero, List.set_cons_succ, i64_w, i32_w]
    rfl
  refine take_ (i := 5) (N := some 10) (v := ?_) (a' := ?_) #[true, true, true, true, true, true, false, false, false] rfl rfl (take_ofW HT_.out HW_.out (by kernel_rfl)) (fun _ _ _ h => h) (Or.inl ⟨by rfl, ?_⟩) BS.out ?_ ?_
  rotate_left
  · intro w' hW
    obtain ⟨d0, dr⟩ := cells1d (blk_below H3.out hW)
    go_simp
    with_reducible rfl
  rotate_left
  · simp only [Act.put, List.setIfInBounds_toArray, List.set_cons_zero, List.set_cons_succ, i64_w, i32_w]
    rfl
  refine pure_ (i := 6) (N := some 11) (v := ?_) (a' := ?_) #[true, true, true, true, true, true, true, false, false] rfl rfl (any_of HT_.out (by kernel_rfl)) (fun _ _ _ h => h) (Or.inl ⟨by rfl, ?_⟩) ?_ ?_
  rotate_left
  · intro w'
    go_simp
    with_reducible rfl
  rotate_left
  · simp only [Act.put, List.setIfInBounds_toArray, List.set_cons_zero, List.set_cons_succ, i64_w, i32_w]
    rfl
  refine one_ (i := 7) (N := some 12) #[true, true, true, true, true, true, true, true, false] rfl rfl (one_of HT_.out (by kernel_rfl)) (by decide) (fun K hK => ?_)
  refine goes_ Try.func29 (by kernel_rfl) rfl #[.string key, .int .i64 (T.length : Nat)] (by rfl) rfl rfl (by (try simp only [List.map_toArray, List.map_cons, List.map_nil]); first | done | rfl) ?_
  refine (HPL.out ws).mono ?_
  rintro e w6 ⟨rfl, b6⟩
  refine ⟨_, rfl, ?_⟩
  have B6 := Aside0.mk (BS.out.trans (b6.mono BS.out.size))
  clear b6
  refine hK.out _ _ B6.out (fun _ => ?_)
  clear hK K
  refine norm_ (a' := ?_) ?_ ?_
  rotate_left
  · show Act.put _ (some 12) _ = _
    simp only [Act.put, List.setIfInBounds_toArray, List.set_cons_zero, List.set_cons_succ, i64_w, i32_w]
    rfl
  refine pure_ (i := 8) (N := some 4) (v := ?_) (a' := ?_) #[true, true, true, true, true, true, true, true, true] rfl rfl (any_of HT_.out (by kernel_rfl)) (fun _ _ _ h => h) (Or.inl ⟨by rfl, ?_⟩) ?_ ?_
  rotate_left
  · intro w'
    go_simp
    with_reducible rfl
  rotate_left
  · simp only [Act.put, List.setIfInBounds_toArray, List.set_cons_zero, List.set_cons_succ, i64_w, i32_w]
    rfl
  refine done_ (done_of HT_.out (by kernel_rfl)) ?_
  have DP := Aside0.mk (DZ.out.below B6.out)
  have H36 := Aside0.mk (blk_below H3.out B6.out)
  have H46 := Aside0.mk (Kd.R_below H4.out B6.out)
  have XB6 := Aside0.mk (blk_below XB.out B6.out)
  clear BS
  go_wp2_with fail
  go_loopw [4] (fun v4 wr => ∃ d : Nat, d ≤ dst (occ T) T.length hm key ∧ v4 = .int .i64 ((hm + d) % T.length : Nat) ∧ w6 = wr) (fun v4 _ => T.length - ((intOf v4).toNat + T.length - hm) % T.length)
  case atStart => exact ⟨0, Nat.zero_le _, by rw [Nat.add_zero, Nat.mod_eq_of_lt HHH.out], rfl⟩
  case round =>
    obtain ⟨d, hd, rfl, rfl⟩ := hrel
    have hdl := HDL.out
    have hdn : d < T.length := by omega
    have hi : (hm + d) % T.length < T.length := Nat.mod_lt _ HP0.out
    have HWD := Aside0.mk (walk_dist HHH.out hdn)
    have HWN := Aside0.mk (walk_next (n := T.length) (h := hm) (d := d))
    have HST := Aside0.mk (fun hlt : d < dst (occ T) T.length hm key => dst_before hlt)
    have HSE := Aside0.mk (fun he : d = dst (occ T) T.length hm key => (by subst he; exact dst_stops HDL.out : stp (occ T) key ((hm + d) % T.length) = true))
    have HFN := Aside0.mk (fun he : d = dst (occ T) T.length hm key => (by subst he; rfl : fnd (occ T) T.length hm key = (hm + d) % T.length))
    have HOC := Aside0.mk (occ_at hi)
    have HNO := Aside0.mk (HAB.out _ hi)
    generalize (hm + d) % T.length = i at hi HWD HWN HST HSE HFN HOC HNO ⊢
    obtain ⟨t0, t1, t2, t3, t4, t5⟩ := ref_slot H46.out i hi
    obtain ⟨d0, dr⟩ := cells1d H36.out
    have i0 : 0 ≤ (i : Int) := by omega
    have i1 : (i : Int) < (T.length : Int) := by omega
    have HRM := Aside0.mk (rem_num T.length i HTL.out hi)
    by_cases hlt : d < dst (occ T) T.length hm key
    · obtain ⟨k', h5, h6⟩ := stp_not (HST.out hlt)
      rw [HOC.out] at h5
      have his : T[i].2.2 = true := by
        by_cases hx : T[i].2.2 = true
        · exact hx
        · rw [if_neg hx] at h5; cases h5
      rw [his] at t5
      clear h5 h6 his
      go_wp2_with fail
      go_roundw
      case rel => exact ⟨d + 1, by omega, by rw [← HWN.out, ← HRM.out], trivial⟩
      case measure =>
        have h7 := walk_dist HHH.out (show d + 1 < T.length by omega)
        have h9 := HWD.out
        have hI : ∀ z : Int, intOf (Value.int .i64 z) = z := fun z => rfl
        rw [HRM.out]
        show T.length - ((intOf (Value.int .i64 (((i + 1) % T.length : Nat) : Int))).toNat + T.length - hm) % T.length < T.length - ((intOf (Value.int .i64 (i : Int))).toNat + T.length - hm) % T.length
        rw [hI, hI, Int.toNat_natCast, Int.toNat_natCast, HWN.out, h7, h9]
        omega
    · have he : d = dst (occ T) T.length hm key := by omega
      have h5 := HSE.out he
      unfold stp at h5
      rw [HOC.out] at h5 HNO
      have his : T[i].2.2 = false := by
        cases hx : T[i].2.2 with
        | false => rfl
        | true =>
          rw [hx, if_pos rfl] at h5 HNO
          exact absurd (by simpa using h5) (fun e => HNO.out (by rw [e]))
      rw [his] at t5
      have HRES := Aside0.mk (HFN.out he)
      clear h5 his he
      go_upto_region 4 with (fail)
      rw [HRES.out] at HLY
      clear t0 t1 t2 t3 t4 t5 d0 dr
      refine region_draw (n := 8) (S := fun W => Below w6.heap.size w6 W) (ds := [7]) #[false, false, false, false, false, false, false, false] (by kernel_rfl) rfl rfl (fun W => Below w6.heap.size w6 W) ((Below.refl _ _).drew) (fun W h => h) ?_
      rintro wt hws
      refine with_tabW rlay4tab rlay4bits (fun HT_ HW_ => ?_)
      have BT := Aside0.mk hws
      clear hws
      refine pure_ (i := 0) (N := some 29) (v := ?_) (a' := ?_) #[true, false, false, false, false, false, false, false] rfl rfl (any_of HT_.out (by kernel_rfl)) (fun _ _ _ h => h) (Or.inl ⟨by rfl, ?_⟩) ?_ ?_
      rotate_left
      · intro w'
        go_simp
        with_reducible rfl
      rotate_left
      · simp only [Act.put, List.setIfInBounds_toArray, List.set_cons_zero, List.set_cons_succ, i64_w, i32_w]
        rfl
      refine pure_ (i := 1) (N := some 30) (v := ?_) (a' := ?_) #[true, true, false, false, false, false, false, false] rfl rfl (any_of HT_.out (by kernel_rfl)) (fun _ _ _ h => h) (Or.inl ⟨by rfl, ?_⟩) ?_ ?_
      rotate_left
      · intro w'
        go_simp
        with_reducible rfl
      rotate_left
      · simp only [Act.put, List.setIfInBounds_toArray, List.set_cons_zero, List.set_cons_succ, i64_w, i32_w]
        rfl
      refine pure_ (i := 2) (N := some 31) (v := ?_) (a' := ?_) #[true, true, true, false, false, false, false, false] rfl rfl (any_of HT_.out (by kernel_rfl)) (fun _ _ _ h => h) (Or.inl ⟨by rfl, ?_⟩) ?_ ?_
      rotate_left
      · intro w'
        go_simp
        with_reducible rfl
      rotate_left
      · simp only [Act.put, List.setIfInBounds_toArray, List.set_cons_zero, List.set_cons_succ, i64_w, i32_w]
        rfl
      refine take_ (i := 3) (N := some 32) (v := ?_) (a' := ?_) #[true, true, true, true, false, false, false, false] rfl rfl (take_ofW HT_.out HW_.out (by kernel_rfl)) (fun _ _ _ h => h) (Or.inl ⟨by rfl, ?_⟩) BT.out ?_ ?_
      rotate_left
      · intro w' hW
        obtain ⟨d0, dr⟩ := cells1d (blk_below H36.out hW)
        go_simp
        with_reducible rfl
      rotate_left
      · simp only [Act.put, List.setIfInBounds_toArray, List.set_cons_zero, List.set_cons_succ, i64_w, i32_w]
        rfl
      refine pure_ (i := 4) (N := some 33) (v := ?_) (a' := ?_) #[true, true, true, true, true, false, false, false] rfl rfl (any_of HT_.out (by kernel_rfl)) (fun _ _ _ h => h) (Or.inl ⟨by rfl, ?_⟩) ?_ ?_
      rotate_left
      · intro w'
        go_simp
        with_reducible rfl
      rotate_left
      · simp only [Act.put, List.setIfInBounds_toArray, List.set_cons_zero, List.set_cons_succ, i64_w, i32_w]
        rfl
      refine take_ (i := 5) (N := some 34) (v := ?_) (a' := ?_) #[true, true, true, true, true, true, false, false] rfl rfl (take_ofW HT_.out HW_.out (by kernel_rfl)) (fun _ _ _ h => h) (Or.inl ⟨by rfl, ?_⟩) BT.out ?_ ?_
      rotate_left
      · intro w' hW
        obtain ⟨b0, b1, b2, b3, b4, b5, br⟩ := cells6d (blk_below XB6.out hW)
        go_simp
        with_reducible rfl
      rotate_left
      · simp only [Act.put, List.setIfInBounds_toArray, List.set_cons_zero, List.set_cons_succ, i64_w, i32_w]
        rfl
      refine pure_ (i := 6) (N := some 35) (v := ?_) (a' := ?_) #[true, true, true, true, true, true, true, false] rfl rfl (any_of HT_.out (by kernel_rfl)) (fun _ _ _ h => h) (Or.inl ⟨by rfl, ?_⟩) ?_ ?_
      rotate_left
      · intro w'
        go_simp
        with_reducible rfl
      rotate_left
      · simp only [Act.put, List.setIfInBounds_toArray, List.set_cons_zero, List.set_cons_succ, i64_w, i32_w]
        rfl
      refine last_ (i := 7) (N := none) #[true, true, true, true, true, true, true, true] rfl rfl (one_of HT_.out (by kernel_rfl)) (by decide) (fun K hK => ?_)
      obtain ⟨t0, t1, t2, t3, t4, t5⟩ := ref_slot (Kd.R_below H46.out BT.out) i hi
      have gz0 := ref_frozen (Kd.R_below H46.out BT.out) (i * 6)
      have gz1 := ref_frozen (Kd.R_below H46.out BT.out) (i * 6 + 1)
      have gz2 := ref_frozen (Kd.R_below H46.out BT.out) (i * 6 + 2)
      have gz3 := ref_frozen (Kd.R_below H46.out BT.out) (i * 6 + 3)
      have gz4 := ref_frozen (Kd.R_below H46.out BT.out) (i * 6 + 4)
      have gz5 := ref_frozen (Kd.R_below H46.out BT.out) (i * 6 + 5)
      refine skip_ (w1 := ?_) (by rfl) rfl ?_ ?_
      rotate_left
      · go_simp
        rfl
      refine hK.out _ _ ?_
      clear hK K
      refine done_ (done_of HT_.out (by kernel_rfl)) ?_
      have HSET := Aside0.mk (show RefAt ((((((wt.setCell ⟨g, i * 6, none⟩ (.string key)).setCell ⟨g, i * 6 + 1, none⟩ (.int .i64 l0)).setCell ⟨g, i * 6 + 2, none⟩ (.int .i64 l1)).setCell ⟨g, i * 6 + 3, none⟩ (.int .i64 l2)).setCell ⟨g, i * 6 + 4, none⟩ (.int .u64 l3)).setCell ⟨g, i * 6 + 5, none⟩ (.bool is)) A p (T.set i (key, (l0, l1, l2, l3), is)) ∧ Frm A wt ((((((wt.setCell ⟨g, i * 6, none⟩ (.string key)).setCell ⟨g, i * 6 + 1, none⟩ (.int .i64 l0)).setCell ⟨g, i * 6 + 2, none⟩ (.int .i64 l1)).setCell ⟨g, i * 6 + 3, none⟩ (.int .i64 l2)).setCell ⟨g, i * 6 + 4, none⟩ (.int .u64 l3)).setCell ⟨g, i * 6 + 5, none⟩ (.bool is)) from ref_set (DP.out.below BT.out).1 (DP.out.below BT.out).2.1 (blk_below H36.out BT.out) (Kd.R_below H46.out BT.out) i hi (key, (l0, l1, l2, l3), is))
      rw [← HLY.out] at HSET
      have F7 := Aside0.mk ((Frm.of_new (S := A) (BZ.out.trans ((B6.out.trans (BT.out.mono B6.out.size)).mono BZ.out.size))).andThen HSET.out.2 (fun i hi => Or.inl hi))
      have D7 := Aside0.mk HSET.out.1
      clear HSET t0 t1 t2 t3 t4 t5 gz0 gz1 gz2 gz3 gz4 gz5
      generalize ((((((wt.setCell ⟨g, i * 6, none⟩ (.string key)).setCell ⟨g, i * 6 + 1, none⟩ (.int .i64 l0)).setCell ⟨g, i * 6 + 2, none⟩ (.int .i64 l1)).setCell ⟨g, i * 6 + 3, none⟩ (.int .i64 l2)).setCell ⟨g, i * 6 + 4, none⟩ (.int .u64 l3)).setCell ⟨g, i * 6 + 5, none⟩ (.bool is)) = w7 at F7 D7 ⊢
      go_wp2_with fail
      go_end0
      exact ⟨rfl, D7.out, F7.out⟩
end Go.Proofs.Ytcpjfpbfopkngaa.Thw
/-! ## Layer 10: the document's Get, Far (printed by gen10w.py). -/
namespace Go.Proofs.Ytcpjfpbfopkngaa.Thw
open Go Go.RowKit Go.Proofs.YtcpjfpbfopkngaaW.PrintWords Go.Proofs.YtcpjfpbfopkngaaW.PrintLast Go.Proofs.YtcpjfpbfopkngaaW.PrintMore
set_option linter.unusedVariables false
set_option linter.unusedSimpArgs false
theorem hitB_true {k : ByteArray} {s : Slt} (h : hitB k s = true) : s.2.2 = true ∧ s.1 = k := by
  unfold hitB at h
  rw [Bool.and_eq_true, beq_iff_eq] at h
  exact ⟨h.1, WideShapes.bytes_inj (by rw [← Lib.toList_data, ← Lib.toList_data]; exact h.2)⟩
theorem hitB_of {k : ByteArray} {s : Slt} (h : s.2.2 = true) (h2 : s.1 = k) : hitB k s = true := by
  unfold hitB
  rw [h, h2]
  simp
theorem inv_at {T : List Slt} {m b : Nat} (hi : Inv T m b) (k : ByteArray) : (atI T k = -1 ∧ lk T k = none ∧ occ T (fnd (occ T) T.length (hmK T.length k) k) = none) ∨
    (∃ h : fnd (occ T) T.length (hmK T.length k) k < T.length, atI T k = (fnd (occ T) T.length (hmK T.length k) k : Nat) ∧ lk T k = some T[fnd (occ T) T.length (hmK T.length k) k].2.1 ∧ T[fnd (occ T) T.length (hmK T.length k) k].2.2 = true ∧ T[fnd (occ T) T.length (hmK T.length k) k].1 = k ∧ occ T (fnd (occ T) T.length (hmK T.length k) k) = some k) := by
  rcases hi.two k with ⟨h1, h2⟩ | ⟨h1, hlt, h2, h3, h4⟩
  · refine Or.inl ⟨atI_miss fun u hu => ?_, h2, h1⟩
    cases hb : hitB k T[u] with
    | false => rfl
    | true =>
      obtain ⟨h5, h6⟩ := hitB_true hb
      have h7 := lk_some_of rfl hi.good hu h5
      rw [h6, h2] at h7
      cases h7
  · refine Or.inr ⟨hlt, atI_hit hlt (fun u hu => ?_) (hitB_of h2 h3), h4, h2, h3, h1⟩
    cases hb : hitB k (T[u]'(by omega)) with
    | false => rfl
    | true =>
      obtain ⟨h5, h6⟩ := hitB_true hb
      have h7 : occ T u = some k := by rw [occ_at (by omega), h5, if_pos rfl, h6]
      have h8 := hi.good.inj (by omega) hlt h7 h1
      omega
set_option maxHeartbeats 6400000 in
set_option maxRecDepth 100000 in
theorem ref_Get.calls (w : World) (A : Nat → Prop) (p : Nat) (T : List Slt) (m b : Nat) (h : RefAt w A p T) (hi : Inv T m b) (hb : b ≤ 250) (k : ByteArray) :
    Calls Try.prog 13 #[.pointer (some ⟨p, 0, none⟩), .string k] w fun e w' => e = .returned (.tuple #[LocV (lkV T k), .bool (lk T k).isSome]) ∧ Below w.heap.size w w' := by
  have hsm := hi.small hb
  have hp0 := hi.pos
  have hcase := inv_at hi k
  obtain ⟨wz, hwz⟩ : ∃ wz, w.alloc (.cells #[.int .i64 0, .int .i64 0, .int .i64 0, .int .u64 0] 31) = wz := ⟨_, rfl⟩
  have BZ := Aside0.mk (show Below w.heap.size w wz by rw [← hwz]; exact below_alloc (Below.refl _ _) _)
  have XB := Aside0.mk (show wz.heap[w.heap.size]? = some (.cells #[.int .i64 0, .int .i64 0, .int .i64 0, .int .u64 0] 31) by rw [← hwz]; exact blk_new _ _)
  have DZ := Aside0.mk (h.below BZ.out)
  have HW := Aside0.mk hwz
  have HAT := Aside0.mk (ref_at.calls wz A p T DZ.out (by omega) k)
  obtain ⟨g, c, h3, h4⟩ := DZ.out.form hp0
  obtain ⟨d0, dr⟩ := cells1d h3
  have H4 := Aside0.mk h4
  obtain ⟨b0, b1, b2, b3, br⟩ := cells4e XB.out
  have HP3 := Aside0.mk h3
  have HPN := Aside0.mk (show w.heap.size ≠ p by have := h.2.1 p h.1; omega)
  clear h hi h3 h4 hwz
  go_enter Try.func13, Try.ntmps13
  go_wp2_with fail
  rw [HW.out]
  clear HW
  refine HAT.out.mono ?_
  rintro e w1 ⟨rfl, rfl⟩
  clear HAT
  rcases hcase with ⟨h1, h2, _⟩ | ⟨hlt, h1, h2, h3, _, _⟩
  · have HV := Aside0.mk (show lkV T k = zL by unfold lkV; rw [h2]; rfl)
    have HS := Aside0.mk (show (lk T k).isSome = false by rw [h2]; rfl)
    rw [h1]
    have d1 : decide ((-1 : Int) < 0) = true := by decide
    clear h2
    have HZ := Aside0.mk (getLoc XB.out HP3.out HPN.out BZ.out (.int .i64 0) (.int .i64 0) (.int .i64 0) (.int .u64 0))
    go_wp2_with fail
    exact bodyPost_ret (v := .tuple #[LocV zL, .bool false]) (results_row_tmp (q := 5) rfl _ _ w.heap.size _ _ (0, 0) _ rfl HZ.out.1 Try.underlying31 rfl (by kernel_rfl)) rfl ⟨by rw [HV.out, HS.out], HZ.out.2.2⟩
  · obtain ⟨i, hie⟩ : ∃ i, fnd (occ T) T.length (hmK T.length k) k = i := ⟨_, rfl⟩
    rw [hie] at h1
    have hlt' : i < T.length := by rw [← hie]; exact hlt
    have HV := Aside0.mk (show lkV T k = (T[i]'hlt').2.1 by unfold lkV; rw [h2]; simp only [hie]; rfl)
    have HS := Aside0.mk (show (lk T k).isSome = true by rw [h2]; rfl)
    obtain ⟨t0, t1, t2, t3, t4, t5⟩ := ref_slot H4.out i hlt'
    rw [h1]
    have i0 : 0 ≤ (i : Int) := by omega
    have i1 : (i : Int) < (T.length : Int) := by omega
    have d1 : decide ((i : Int) < 0) = false := decide_eq_false (by omega)
    clear h1 h2 h3
    generalize T[i]'hlt' = s at t0 t1 t2 t3 t4 t5 HV
    obtain ⟨key, ⟨l0, l1, l2, l3⟩, is⟩ := s
    simp only at t0 t1 t2 t3 t4 t5 HV
    have HZ := Aside0.mk (getLoc XB.out HP3.out HPN.out BZ.out (.int .i64 l0) (.int .i64 l1) (.int .i64 l2) (.int .u64 l3))
    go_wp2_with fail
    exact bodyPost_ret (v := .tuple #[LocV (l0, l1, l2, l3), .bool true]) (results_row_tmp (q := 5) rfl _ _ w.heap.size _ _ (0, 0) _ rfl HZ.out.1 Try.underlying31 rfl (by kernel_rfl)) rfl ⟨by rw [HV.out, HS.out], HZ.out.2.2⟩
theorem rfar_num (n i hm d : Nat) (hn : n ≤ 1073741824) (hi : i < n) (hh : hm < n) (h : (i + n - hm) % n = d) : Int.tmod (wrap64 (wrap64 ((i : Int) - (hm : Int)) + (n : Int))) (n : Int) = (d : Int) := by
  rw [wrap64_in (n := (i : Int) - (hm : Int)) (by omega) (by omega), wrap64_in (by omega) (by omega), Int.tmod_eq_emod_of_nonneg (by omega), show (i : Int) - (hm : Int) + (n : Int) = ((i + n - hm : Nat) : Int) by omega, ← Int.natCast_emod, h]
def rfar4T : Bool × List (List Nat × List Nat) := (true, [([], []), ([], []), ([], []), ([2], [2]), ([3], [3]), ([4], [4]), ([5], [5]), ([1, 6], [1, 6]), ([0, 7], [0, 7]), ([], []), ([9], [9]), ([10], [10]), ([11], [11]), ([12], [12]), ([8, 13], [8, 13]), ([], []), ([15], [15]), ([16], [16]), ([17], [17]), ([18], [18]), ([14, 19], [14, 19]), ([20, 7, 0, 1, 2, 3, 4, 5, 6, 7, 8, 9, 10, 11, 12, 13, 14, 15, 16, 17, 18, 19, 20], [20]), ([21, 0, 1, 2, 3, 4, 5, 6, 7, 8, 9, 10, 11, 12, 13, 14, 15, 16, 17, 18, 19, 20, 21], [])])
def rfar4B : List Nat := [0, 0, 0, 4, 12, 28, 60, 126, 255, 0, 512, 1536, 3584, 7680, 16383, 0, 32768, 98304, 229376, 491520, 1048575, 2097151, 4194303]
theorem rfar4tab : rtab .any (opsOf Try.f20 4) = rfar4T := by kernel_rfl
theorem rfar4bits : waitsOk rfar4T.2 rfar4B = true := by kernel_rfl
set_option maxHeartbeats 12800000 in
set_option maxRecDepth 100000 in
theorem ref_Far.calls (w : World) (A : Nat → Prop) (p : Nat) (T : List Slt) (m b : Nat) (h : RefAt w A p T) (hi : Inv T m b) (hb : b ≤ 250) (k : ByteArray) (hk : k.size ≤ 100) :
    Calls Try.prog 20 #[.pointer (some ⟨p, 0, none⟩), .string k] w fun e w' => e = .returned (.tuple #[.int .i64 (farN T k : Nat), .bool (lk T k).isSome]) ∧ Below w.heap.size w w' := by
  have hsm := hi.small hb
  have hp0 := hi.pos
  have hcase := inv_at hi k
  obtain ⟨j, _, hj, hT⟩ := hi.exp hb
  have HPL := Aside0.mk (fun w => rplace_calls k (size_big hk) j (by omega) w)
  rw [← hT] at HPL
  have HG := Aside0.mk hi.gap
  have HI := Aside0.mk (fun e : occ T (fnd (occ T) T.length (hmK T.length k) k) = some k => (hi.home e).1)
  have HAT := Aside0.mk (ref_at.calls w A p T h (by omega) k)
  obtain ⟨g, c, h3, h4⟩ := h.form hp0
  have H3 := Aside0.mk h3
  have hh : hmK T.length k < T.length := Nat.mod_lt _ hp0
  have HDL := Aside0.mk (dst_lt (k := k) hh hi.gap)
  clear h hi h3 h4 hT hj
  go_enter Try.func20, Try.ntmps20
  go_wp2_with fail
  refine HAT.out.mono ?_
  rintro e w1 ⟨rfl, rfl⟩
  clear HAT
  rcases hcase with ⟨h1, h2, _⟩ | ⟨hlt, h1, h2, h3, _, _⟩
  · have HV := Aside0.mk (show farN T k = 0 by unfold farN; rw [h2]; rfl)
    have HS := Aside0.mk (show (lk T k).isSome = false by rw [h2]; rfl)
    rw [h1]
    have d1 : decide ((-1 : Int) < 0) = true := by decide
    clear h2
    go_wp2_with fail
    go_ret2
    rw [HV.out, HS.out]
    exact ⟨rfl, Below.refl _ _⟩
  · have HS := Aside0.mk (show (lk T k).isSome = true by rw [h2]; rfl)
    have HV := Aside0.mk (show farN T k = dst (occ T) T.length (hmK T.length k) k by unfold farN; rw [h2]; rfl)
    have HD := Aside0.mk (show (fnd (occ T) T.length (hmK T.length k) k + T.length - hmK T.length k) % T.length = dst (occ T) T.length (hmK T.length k) k from walk_dist hh HDL.out)
    obtain ⟨i, hie⟩ : ∃ i, fnd (occ T) T.length (hmK T.length k) k = i := ⟨_, rfl⟩
    obtain ⟨hm, hme⟩ : ∃ i, hmK T.length k = i := ⟨_, rfl⟩
    rw [hie] at h1 HD hlt
    rw [hme] at HPL HD hh HV
    have HN := Aside0.mk (rfar_num T.length i hm _ (by omega) hlt hh HD.out)
    rw [h1]
    have i0 : 0 ≤ (i : Int) := by omega
    have i1 : (i : Int) < (T.length : Int) := by omega
    have d1 : decide ((i : Int) < 0) = false := decide_eq_false (by omega)
    have hTn : ¬ T = [] := by intro e; rw [e] at hp0; simp at hp0
    clear h1 h2 h3 HI
    go_upto_region 4 with (fail)
    refine region_draw (n := 23) (S := fun W => Below w.heap.size w W) (ds := []) #[false, false, false, false, false, false, false, false, false, false, false, false, false, false, false, false, false, false, false, false, false, false, false] (by kernel_rfl) rfl rfl (fun W => Below w.heap.size w W) ((Below.refl _ _).drew) (fun W h => h) ?_
    rintro ws hws
    refine with_tabW rfar4tab rfar4bits (fun HT_ HW_ => ?_)
    have BS := Aside0.mk hws
    clear hws
    refine pure_ (i := 0) (N := some 12) (v := ?_) (a' := ?_) #[true, false, false, false, false, false, false, false, false, false, false, false, false, false, false, false, false, false, false, false, false, false, false] rfl rfl (any_of HT_.out (by kernel_rfl)) (fun _ _ _ h => h) (Or.inl ⟨by rfl, ?_⟩) ?_ ?_
    rotate_left
    · intro w'
      go_simp
      with_reducible rfl
    rotate_left
    · simp only [Act.put, List.setIfInBounds_toArray, List.set_cons_zero, List.set_cons_succ, i64_w, i32_w]
      rfl
    refine pure_ (i := 1) (N := some 13) (v := ?_) (a' := ?_) #[true, true, false, false, false, false, false, false, false, false, false, false, false, false, false, false, false, false, false, false, false, false, false] rfl rfl (any_of HT_.out (by kernel_rfl)) (fun _ _ _ h => h) (Or.inl ⟨by rfl, ?_⟩) ?_ ?_
    rotate_left
    · intro w'
      go_simp
      with_reducible rfl
    rotate_left
    · simp only [Act.put, List.setIfInBounds_toArray, List.set_cons_zero, List.set_cons_succ, i64_w, i32_w]
      rfl
    refine pure_ (i := 2) (N := some 14) (v := ?_) (a' := ?_) #[true, true, true, false, false, false, false, false, false, false, false, false, false, false, false, false, false, false, false, false, false, false, false] rfl rfl (any_of HT_.out (by kernel_rfl)) (fun _ _ _ h => h) (Or.inl ⟨by rfl, ?_⟩) ?_ ?_
    rotate_left
    · intro w'
      go_simp
      with_reducible rfl
    rotate_left
    · simp only [Act.put, List.setIfInBounds_toArray, List.set_cons_zero, List.set_cons_succ, i64_w, i32_w]
      rfl
    refine pure_ (i := 3) (N := some 15) (v := ?_) (a' := ?_) #[true, true, true, true, false, false, false, false, false, false, false, false, false, false, false, false, false, false, false, false, false, false, false] rfl rfl (any_of HT_.out (by kernel_rfl)) (fun _ _ _ h => h) (Or.inl ⟨by rfl, ?_⟩) ?_ ?_
    rotate_left
    · intro w'
      go_simp
      with_reducible rfl
    rotate_left
    · simp only [Act.put, List.setIfInBounds_toArray, List.set_cons_zero, List.set_cons_succ, i64_w, i32_w]
      rfl
    refine pure_ (i := 4) (N := some 16) (v := ?_) (a' := ?_) #[true, true, true, true, true, false, false, false, false, false, false, false, false, false, false, false, false, false, false, false, false, false, false] rfl rfl (any_of HT_.out (by kernel_rfl)) (fun _ _ _ h => h) (Or.inl ⟨by rfl, ?_⟩) ?_ ?_
    rotate_left
    · intro w'
      go_simp
      with_reducible rfl
    rotate_left
    · simp only [Act.put, List.setIfInBounds_toArray, List.set_cons_zero, List.set_cons_succ, i64_w, i32_w]
      rfl
    refine take_ (i := 5) (N := some 17) (v := ?_) (a' := ?_) #[true, true, true, true, true, true, false, false, false, false, false, false, false, false, false, false, false, false, false, false, false, false, false] rfl rfl (take_ofW HT_.out HW_.out (by kernel_rfl)) (fun _ _ _ h => h) (Or.inl ⟨by rfl, ?_⟩) BS.out ?_ ?_
    rotate_left
    · intro w' hW
      obtain ⟨d0, dr⟩ := cells1d (blk_below H3.out hW)
      go_simp
      with_reducible rfl
    rotate_left
    · simp only [Act.put, List.setIfInBounds_toArray, List.set_cons_zero, List.set_cons_succ, i64_w, i32_w]
      rfl
    refine pure_ (i := 6) (N := some 18) (v := ?_) (a' := ?_) #[true, true, true, true, true, true, true, false, false, false, false, false, false, false, false, false, false, false, false, false, false, false, false] rfl rfl (any_of HT_.out (by kernel_rfl)) (fun _ _ _ h => h) (Or.inl ⟨by rfl, ?_⟩) ?_ ?_
    rotate_left
    · intro w'
      go_simp
      with_reducible rfl
    rotate_left
    · simp only [Act.put, List.setIfInBounds_toArray, List.set_cons_zero, List.set_cons_succ, i64_w, i32_w]
      rfl
    refine pure_ (i := 9) (N := some 21) (v := ?_) (a' := ?_) #[true, true, true, true, true, true, true, false, false, true, false, false, false, false, false, false, false, false, false, false, false, false, false] rfl rfl (any_of HT_.out (by kernel_rfl)) (fun _ _ _ h => h) (Or.inl ⟨by rfl, ?_⟩) ?_ ?_
    rotate_left
    · intro w'
      go_simp
      with_reducible rfl
    rotate_left
    · simp only [Act.put, List.setIfInBounds_toArray, List.set_cons_zero, List.set_cons_succ, i64_w, i32_w]
      rfl
    refine pure_ (i := 10) (N := some 22) (v := ?_) (a' := ?_) #[true, true, true, true, true, true, true, false, false, true, true, false, false, false, false, false, false, false, false, false, false, false, false] rfl rfl (any_of HT_.out (by kernel_rfl)) (fun _ _ _ h => h) (Or.inl ⟨by rfl, ?_⟩) ?_ ?_
    rotate_left
    · intro w'
      go_simp
      with_reducible rfl
    rotate_left
    · simp only [Act.put, List.setIfInBounds_toArray, List.set_cons_zero, List.set_cons_succ, i64_w, i32_w]
      rfl
    refine pure_ (i := 11) (N := some 23) (v := ?_) (a' := ?_) #[true, true, true, true, true, true, true, false, false, true, true, true, false, false, false, false, false, false, false, false, false, false, false] rfl rfl (any_of HT_.out (by kernel_rfl)) (fun _ _ _ h => h) (Or.inl ⟨by rfl, ?_⟩) ?_ ?_
    rotate_left
    · intro w'
      go_simp
      with_reducible rfl
    rotate_left
    · simp only [Act.put, List.setIfInBounds_toArray, List.set_cons_zero, List.set_cons_succ, i64_w, i32_w]
      rfl
    refine take_ (i := 12) (N := some 24) (v := ?_) (a' := ?_) #[true, true, true, true, true, true, true, false, false, true, true, true, true, false, false, false, false, false, false, false, false, false, false] rfl rfl (take_ofW HT_.out HW_.out (by kernel_rfl)) (fun _ _ _ h => h) (Or.inl ⟨by rfl, ?_⟩) BS.out ?_ ?_
    rotate_left
    · intro w' hW
      obtain ⟨d0, dr⟩ := cells1d (blk_below H3.out hW)
      go_simp
      with_reducible rfl
    rotate_left
    · simp only [Act.put, List.setIfInBounds_toArray, List.set_cons_zero, List.set_cons_succ, i64_w, i32_w]
      rfl
    refine pure_ (i := 13) (N := some 25) (v := ?_) (a' := ?_) #[true, true, true, true, true, true, true, false, false, true, true, true, true, true, false, false, false, false, false, false, false, false, false] rfl rfl (any_of HT_.out (by kernel_rfl)) (fun _ _ _ h => h) (Or.inl ⟨by rfl, ?_⟩) ?_ ?_
    rotate_left
    · intro w'
      go_simp
      with_reducible rfl
    rotate_left
    · simp only [Act.put, List.setIfInBounds_toArray, List.set_cons_zero, List.set_cons_succ, i64_w, i32_w]
      rfl
    refine pure_ (i := 15) (N := some 27) (v := ?_) (a' := ?_) #[true, true, true, true, true, true, true, false, false, true, true, true, true, true, false, true, false, false, false, false, false, false, false] rfl rfl (any_of HT_.out (by kernel_rfl)) (fun _ _ _ h => h) (Or.inl ⟨by rfl, ?_⟩) ?_ ?_
    rotate_left
    · intro w'
      go_simp
      with_reducible rfl
    rotate_left
    · simp only [Act.put, List.setIfInBounds_toArray, List.set_cons_zero, List.set_cons_succ, i64_w, i32_w]
      rfl
    refine pure_ (i := 16) (N := some 28) (v := ?_) (a' := ?_) #[true, true, true, true, true, true, true, false, false, true, true, true, true, true, false, true, true, false, false, false, false, false, false] rfl rfl (any_of HT_.out (by kernel_rfl)) (fun _ _ _ h => h) (Or.inl ⟨by rfl, ?_⟩) ?_ ?_
    rotate_left
    · intro w'
      go_simp
      with_reducible rfl
    rotate_left
    · simp only [Act.put, List.setIfInBounds_toArray, List.set_cons_zero, List.set_cons_succ, i64_w, i32_w]
      rfl
    refine pure_ (i := 17) (N := some 29) (v := ?_) (a' := ?_) #[true, true, true, true, true, true, true, false, false, true, true, true, true, true, false, true, true, true, false, false, false, false, false] rfl rfl (any_of HT_.out (by kernel_rfl)) (fun _ _ _ h => h) (Or.inl ⟨by rfl, ?_⟩) ?_ ?_
    rotate_left
    · intro w'
      go_simp
      with_reducible rfl
    rotate_left
    · simp only [Act.put, List.setIfInBounds_toArray, List.set_cons_zero, List.set_cons_succ, i64_w, i32_w]
      rfl
    refine take_ (i := 18) (N := some 30) (v := ?_) (a' := ?_) #[true, true, true, true, true, true, true, false, false, true, true, true, true, true, false, true, true, true, true, false, false, false, false] rfl rfl (take_ofW HT_.out HW_.out (by kernel_rfl)) (fun _ _ _ h => h) (Or.inl ⟨by rfl, ?_⟩) BS.out ?_ ?_
    rotate_left
    · intro w' hW
      obtain ⟨d0, dr⟩ := cells1d (blk_below H3.out hW)
      go_simp
      with_reducible rfl
    rotate_left
    · simp only [Act.put, List.setIfInBounds_toArray, List.set_cons_zero, List.set_cons_succ, i64_w, i32_w]
      rfl
    refine pure_ (i := 19) (N := some 31) (v := ?_) (a' := ?_) #[true, true, true, true, true, true, true, false, false, true, true, true, true, true, false, true, true, true, true, true, false, false, false] rfl rfl (any_of HT_.out (by kernel_rfl)) (fun _ _ _ h => h) (Or.inl ⟨by rfl, ?_⟩) ?_ ?_
    rotate_left
    · intro w'
      go_simp
      with_reducible rfl
    rotate_left
    · simp only [Act.put, List.setIfInBounds_toArray, List.set_cons_zero, List.set_cons_succ, i64_w, i32_w]
      rfl
    refine one_ (i := 7) (N := some 19) #[true, true, true, true, true, true, true, true, false, true, true, true, true, true, false, true, true, true, true, true, false, false, false] rfl rfl (one_of HT_.out (by kernel_rfl)) (by decide) (fun K hK => ?_)
    refine goes_ Try.func29 (by kernel_rfl) rfl #[.string k, .int .i64 (T.length : Nat)] (by rfl) rfl rfl (by (try simp only [List.map_toArray, List.map_cons, List.map_nil]); first | done | rfl) ?_
    refine (HPL.out ws).mono ?_
    rintro e w6 ⟨rfl, b6⟩
    refine ⟨_, rfl, ?_⟩
    have B6 := Aside0.mk (BS.out.trans (b6.mono BS.out.size))
    clear b6
    refine hK.out _ _ B6.out (fun _ => ?_)
    clear hK K
    refine norm_ (a' := ?_) ?_ ?_
    rotate_left
    · show Act.put _ (some 19) _ = _
      simp only [Act.put, List.setIfInBounds_toArray, List.set_cons_zero, List.set_cons_succ, i64_w, i32_w]
      rfl
    refine pure_ (i := 8) (N := some 20) (v := ?_) (a' := ?_) #[true, true, true, true, true, true, true, true, true, true, true, true, true, true, false, true, true, true, true, true, false, false, false] rfl rfl (any_of HT_.out (by kernel_rfl)) (fun _ _ _ h => h) (Or.inl ⟨by rfl, ?_⟩) ?_ ?_
    rotate_left
    · intro w'
      go_simp
      with_reducible rfl
    rotate_left
    · simp only [Act.put, List.setIfInBounds_toArray, List.set_cons_zero, List.set_cons_succ, i64_w, i32_w]
      rfl
    refine pure_ (i := 14) (N := some 26) (v := ?_) (a' := ?_) #[true, true, true, true, true, true, true, true, true, true, true, true, true, true, true, true, true, true, true, true, false, false, false] rfl rfl (any_of HT_.out (by kernel_rfl)) (fun _ _ _ h => h) (Or.inl ⟨by rfl, ?_⟩) ?_ ?_
    rotate_left
    · intro w'
      go_simp
      with_reducible rfl
    rotate_left
    · simp only [Act.put, List.setIfInBounds_toArray, List.set_cons_zero, List.set_cons_succ, i64_w, i32_w]
      rfl
    refine pure_ (i := 20) (N := some 32) (v := ?_) (a' := ?_) #[true, true, true, true, true, true, true, true, true, true, true, true, true, true, true, true, true, true, true, true, true, false, false] rfl rfl (any_of HT_.out (by kernel_rfl)) (fun _ _ _ h => h) (Or.inl ⟨by rfl, ?_⟩) ?_ ?_
    rotate_left
    · intro w'
      go_simp
      first | with_reducible rfl | (rw [if_neg hTn]; with_reducible rfl)
    rotate_left
    · simp only [Act.put, List.setIfInBounds_toArray, List.set_cons_zero, List.set_cons_succ, i64_w, i32_w]
      rfl
    refine pure_ (i := 21) (N := some 4) (v := ?_) (a' := ?_) #[true, true, true, true, true, true, true, true, true, true, true, true, true, true, true, true, true, true, true, true, true, true, false] rfl rfl (any_of HT_.out (by kernel_rfl)) (fun _ _ _ h => h) (Or.inl ⟨by rfl, ?_⟩) ?_ ?_
    rotate_left
    · intro w'
      go_simp
      with_reducible rfl
    rotate_left
    · simp only [Act.put, List.setIfInBounds_toArray, List.set_cons_zero, List.set_cons_succ, i64_w, i32_w]
      rfl
    refine pure_ (i := 22) (N := some 5) (v := ?_) (a' := ?_) #[true, true, true, true, true, true, true, true, true, true, true, true, true, true, true, true, true, true, true, true, true, true, true] rfl rfl (any_of HT_.out (by kernel_rfl)) (fun _ _ _ h => h) (Or.inl ⟨by rfl, ?_⟩) ?_ ?_
    rotate_left
    · intro w'
      go_simp
      with_reducible rfl
    rotate_left
    · simp only [Act.put, List.setIfInBounds_toArray, List.set_cons_zero, List.set_cons_succ, i64_w, i32_w]
      rfl
    refine done_ (done_of HT_.out (by kernel_rfl)) ?_
    go_wp2_with fail
    go_ret2
    rw [HV.out, HS.out, ← HN.out]
    exact ⟨rfl, B6.out⟩
end Go.Proofs.Ytcpjfpbfopkngaa.Thw
/-! ## Layer 10: the document's Keys (printed by gen10x.py). -/
namespace Go.Proofs.Ytcpjfpbfopkngaa.Thw
open Go Go.RowKit Go.Proofs.YtcpjfpbfopkngaaW.PrintWords Go.Proofs.YtcpjfpbfopkngaaW.PrintLast Go.Proofs.YtcpjfpbfopkngaaW.PrintMore
set_option linter.unusedVariables false
set_option linter.unusedSimpArgs false
theorem cut_two {P : Program} {α : Type} {d : Kd α} {w : World} {A : Option Addr} {L : List α} {c : Nat} (t e : TypeId) {z : Value} {bytes : Nat} (ht : P.underlying t = some (.slice e)) (hinfo : (P.info? e).map (fun i => (i.zero, i.size, i.bytes)) = some (some z, d.sz, bytes))
    (h : d.C w A L.length L) (hc : L.length ≤ c) (i : Nat) (hi : i ≤ L.length) :
    ∃ A1 c1 A2 c2, (∀ W : World, (Instr.slice t (.slice A L.length c) none (some (.int .i64 (i : Int))) none).run P W = .ok (.slice A1 (L.take i).length c1) W) ∧ d.C w A1 (L.take i).length (L.take i) ∧
      (∀ W : World, (Instr.slice t (.slice A L.length c) (some (.int .i64 (i : Int))) none none).run P W = .ok (.slice A2 (L.drop i).length c2) W) ∧ d.C w A2 (L.drop i).length (L.drop i) := by
  obtain ⟨i0, hi0, hzz⟩ := Option.map_eq_some_iff.1 hinfo
  simp only [Prod.mk.injEq] at hzz
  obtain ⟨hz0, hz1, hz2⟩ := hzz
  have h1 := cut_to (P := P) t e .i64 ht hi0 A L.length c (i : Int) (by omega) (by omega) hc
  have h2 := cut_from (P := P) t e .i64 ht hi0 d.sz hz1 A L.length c (i : Int) (by omega) (by omega)
  have e1 : (L.take i).length = (i : Int).toNat := by rw [List.length_take]; omega
  have e2 : (L.drop i).length = L.length - (i : Int).toNat := by rw [List.length_drop]; omega
  refine ⟨A, c, (if c = i then A else A.map (·.add (i * d.sz))), c - i, ?_, Kd.C_take h hi, ?_, Kd.C_drop h hi hc⟩
  · rw [e1]; exact h1
  · rw [e2]; exact h2
theorem C_strAtR {w : World} {A : Option Addr} {xs : List ByteArray} (h : Kd.C Kd.string w A xs.length xs) {k : Nat} (hk : k < xs.length) : ∃ ad, A = some ad ∧ w.cell? (ad.add k) = some (.string xs[k]) := by
  obtain ⟨ad, c, e, hl, hK, hc⟩ := ReadsRow.get_ h ⟨#[]⟩ (k : Int) (by omega) (by omega)
  have hx : xs.getD k ⟨#[]⟩ = xs[k] := by simp [hk, List.getD_eq_getElem?_getD]
  have h1 : c = [Value.string (xs.getD k ⟨#[]⟩)] := hK
  rw [hx] at h1
  subst h1
  have hc' : ∀ (j : Nat) u, ([Value.string xs[k]] : List Value)[j]? = some u → w.cell? (ad.add (k * 1 + j)) = some u := hc
  refine ⟨ad, e, ?_⟩
  have h2 := hc' 0 _ rfl
  rwa [Nat.add_zero, Nat.mul_one] at h2
theorem str_KM {w : World} {base : Nat} {ok : Nat → Prop} {x : ByteArray} {cs : List Value} (h : Kd.string.K w x cs) : Kd.string.M w base ok x cs := h
theorem rep_one {w : World} {b : Nat} {ok : Nat → Prop} (k : ByteArray) : Reps (Kd.string.M w b ok) Kd.string.sz [k] [.string k] := Reps.front (show Kd.string.M w b ok k [.string k] from rfl) rfl (Reps.none _ _) rfl
def ltB (k x : ByteArray) : Bool := Op.bytesLess x.toList k.toList
/-- A key is laid into a rising row. -/
def insK (k : ByteArray) (X : List ByteArray) : List ByteArray := X.takeWhile (ltB k) ++ [k] ++ X.dropWhile (ltB k)
theorem insK_at (k : ByteArray) : ∀ (X : List ByteArray) (i : Nat), (∀ j (h : j < X.length), j < i → ltB k X[j] = true) → (∀ h : i < X.length, ltB k X[i] = false) → i ≤ X.length → X.take i ++ [k] ++ X.drop i = insK k X
  | [], i, _, _, h => by simp at h; subst h; rfl
  | y :: X, 0, _, h, _ => by
    have h0 : ltB k y = false := h (by simp)
    unfold insK
    rw [List.takeWhile_cons, if_neg (by rw [h0]; decide), List.dropWhile_cons, if_neg (by rw [h0]; decide)]
    rfl
  | y :: X, i + 1, hj, h, hi => by
    have h0 : ltB k y = true := hj 0 (by simp) (by omega)
    have ih := insK_at k X i (fun j hl hlt => hj (j + 1) (by simpa using hl) (by omega)) (fun hl => h (by simpa using hl)) (by simpa using hi)
    unfold insK at ih ⊢
    rw [List.takeWhile_cons, if_pos h0, List.dropWhile_cons, if_pos h0, List.cons_append, List.cons_append, ← ih]
    rfl
theorem insK_len (k : ByteArray) (X : List ByteArray) : (insK k X).length = X.length + 1 := by
  have h := congrArg List.length (List.takeWhile_append_dropWhile (p := ltB k) (l := X))
  unfold insK
  simp only [List.length_append, List.length_singleton] at h ⊢
  omega
def keyStep (X : List ByteArray) (s : Slt) : List ByteArray := if s.2.2 = true then insK s.1 X else X
/-- All keys, rising. -/
def keysR (T : List Slt) : List ByteArray := T.foldl keyStep []
theorem keysR_next (T : List Slt) (i : Nat) (hi : i < T.length) : keysR (T.take (i + 1)) = keyStep (keysR (T.take i)) T[i] := by
  unfold keysR
  rw [List.take_succ_eq_append_getElem hi, List.foldl_append]
  rfl
theorem keyStep_len (X : List ByteArray) (s : Slt) : (keyStep X s).length ≤ X.length + 1 := by
  unfold keyStep
  split
  · rw [insK_len]; omega
  · omega
theorem keysR_len : ∀ (T : List Slt) (i : Nat), i ≤ T.length → (keysR (T.take i)).length ≤ i
  | T, 0, _ => by simp [keysR]
  | T, i + 1, h => by
    rw [keysR_next T i (by omega)]
    have := keysR_len T i (by omega)
    have := keyStep_len (keysR (T.take i)) T[i]
    omega
def rkeys9T : Bool × List (List Nat × List Nat) := (true, [([], []), ([], []), ([], []), ([1, 2], [1, 2]), ([0, 3], [0, 3]), ([], []), ([5], [5]), ([6], [6]), ([7], [7]), ([], []), ([8, 9], [8, 9]), ([10], [10]), ([11], [11]), ([12], [12]), ([4, 13, 4], [4, 13]), ([], []), ([], []), ([15, 16], [15, 16]), ([14, 17, 14], [14, 17]), ([18, 18, 0, 1, 2, 3, 4, 5, 6, 7, 8, 9, 10, 11, 12, 13, 14, 15, 16, 17, 18], [1, 15, 18])])
def rkeys9B : List Nat := [0, 0, 0, 6, 15, 0, 32, 96, 224, 0, 992, 2016, 4064, 8160, 16383, 0, 0, 98304, 262143, 524287]
theorem rkeys9tab : rtab .any (opsOf Try.f16 9) = rkeys9T := by kernel_rfl
theorem rkeys9bits : waitsOk rkeys9T.2 rkeys9B = true := by kernel_rfl
set_option maxHeartbeats 12800000 in
set_option maxRecDepth 100000 in
theorem ref_Keys.calls (w : World) (A : Nat → Prop) (p : Nat) (T : List Slt) (h : RefAt w A p T) (hl : T.length ≤ 1000) (hp0 : 0 < T.length) :
    Calls Try.prog 16 #[.pointer (some ⟨p, 0, none⟩)] w fun e w' => ∃ A1 c1, e = .returned (.slice A1 (keysR T).length c1) ∧ Kd.R Kd.string 9 w' w.heap.size (fun _ => True) (.slice A1 (keysR T).length c1) (keysR T) ∧ Below w.heap.size w w' := by
  have HD := Aside0.mk h
  have HTL := Aside0.mk hl
  obtain ⟨g, c, h3, h4⟩ := h.form hp0
  have H3 := Aside0.mk h3
  have H4 := Aside0.mk h4
  clear h h3 h4 hl hp0
  go_enter Try.func16, Try.ntmps16
  go_wp2_with fail
  go_loopw [3, 4] (fun v3 v4 wr => ∃ i : Nat, i ≤ T.length ∧ v4 = .int .i64 i ∧ Aside0 (Kd.R Kd.string 9 wr w.heap.size (fun _ => True) v3 (keysR (T.take i))) ∧ Aside0 (Below w.heap.size w wr)) (fun _ v4 _ => T.length - (intOf v4).toNat)
  case atStart => exact ⟨0, by omega, rfl, ⟨Kd.R_nil _ _ _ _ _⟩, ⟨Below.refl _ _⟩⟩
  case round =>
    obtain ⟨i, hi, rfl, HR, HB⟩ := hrel
    rename World => wv
    obtain ⟨A3, c3, rfl⟩ := Kd.R_slice HR.out
    obtain ⟨d0, dr⟩ := cells1d (blk_below H3.out HB.out)
    have htl := HTL.out
    have HXL := Aside0.mk (keysR_len T i hi)
    by_cases hlt : i < T.length
    · have d1 : decide ((i : Int) < (T.length : Int)) = true := decide_eq_true (by omega)
      have i0 : 0 ≤ (i : Int) := by omega
      have i1 : (i : Int) < (T.length : Int) := by omega
      obtain ⟨t0, t1, t2, t3, t4, t5⟩ := ref_slot (Kd.R_below H4.out HB.out) i hlt
      have HNX := Aside0.mk (keysR_next T i hlt)
      have HSL := Aside0.mk (fun W (hW : Below wv.heap.size wv W) => ref_slot (Kd.R_below H4.out (HB.out.trans (hW.mono HB.out.size))) i hlt)
      generalize T[i] = s at t0 t1 t2 t3 t4 t5 HNX HSL
      obtain ⟨key, ⟨l0, l1, l2, l3⟩, is⟩ := s
      simp only at t0 t1 t2 t3 t4 t5
      cases is with
      | false =>
        have HN2 := Aside0.mk (show keysR (T.take (i + 1)) = keysR (T.take i) from HNX.out)
        go_wp2_with fail
        go_roundw
        case rel => exact ⟨i + 1, by omega, by go_num, ⟨by rw [HN2.out]; exact HR.out⟩, HB⟩
        case measure => simp [intOf]; omega
      | true =>
        have HN2 := Aside0.mk (show keysR (T.take (i + 1)) = insK key (keysR (T.take i)) from HNX.out)
        generalize keysR (T.take i) = X at HR HN2 HXL ⊢
        clear HNX
        go_wp2_with fail
        clear t0 t1 t2 t3 t4 t5 d0 dr
        go_loopw [5] (fun v5 wx => ∃ a : Nat, a ≤ X.length ∧ v5 = .int .i64 a ∧ Aside0 (∀ j (h : j < X.length), j < a → ltB key X[j] = true) ∧ Aside0 (Below wv.heap.size wv wx)) (fun v5 _ => X.length - (intOf v5).toNat)
        case atStart => exact ⟨0, by omega, rfl, ⟨fun j _ hj => by omega⟩, ⟨Below.refl _ _⟩⟩
        case round =>
          obtain ⟨a, ha, rfl, HA, HBX⟩ := hrel
          have hxl := HXL.out
          obtain ⟨t0, t1, t2, t3, t4, t5⟩ := HSL.out _ HBX.out
          obtain ⟨d0, dr⟩ := cells1d (blk_below H3.out (HB.out.trans (HBX.out.mono HB.out.size)))
          try simp only at t0 t1 t2 t3 t4 t5
          by_cases hla : a < X.length
          · have d3 : decide ((a : Int) < (X.length : Int)) = true := decide_eq_true (by omega)
            have a0 : 0 ≤ (a : Int) := by omega
            have a1 : (a : Int) < (X.length : Int) := by omega
            obtain ⟨ad, rfl, g0⟩ := C_strAtR (Kd.C_below (Kd.R_reads' HR.out).2.2 HBX.out) hla
            have HY := Aside0.mk (show ltB key X[a] = Op.bytesLess (X[a]).toList key.toList from rfl)
            generalize hy : X[a] = y at g0 HY
            cases hbl : Op.bytesLess y.toList key.toList with
            | true =>
              have HA2 := Aside0.mk (show ∀ j (h : j < X.length), j < a + 1 → ltB key X[j] = true from fun j h hj => by
                rcases Nat.lt_succ_iff_lt_or_eq.1 hj with h1 | rfl
                · exact HA.out j h h1
                · rw [hy, HY.out]; exact hbl)
              clear hy
              go_wp2
              repeat (go_quiet (fail); try go_wp2)
              go_roundw
              case rel => exact ⟨a + 1, by omega, by go_num, HA2, ⟨by repeat (first | (with_reducible first | exact HBX.out | apply below_alloc | apply pw_below_drewN | apply below_drew1) | exact HBX.out)⟩⟩
              case measure => simp [intOf]; omega
            | false =>
              have HI := Aside0.mk (insK_at key X a HA.out (fun _ => by rw [hy, HY.out]; exact hbl) ha)
              clear hy
              go_wp2
              repeat (go_quiet (fail); try go_wp2)
              clear t0 t1 t2 t3 t4 t5 d0 dr
              have hC7 := (Kd.R_reads' HR.out)
              obtain ⟨A1, c1, A2, c2, hcut1, hCT, hcut2, hCD⟩ := cut_two (P := Try.prog) 38 9 Try.underlying38 infoStr hC7.2.2 hC7.2.1 a ha
              obtain ⟨n1, hn1⟩ : ∃ n_ : Nat, (X.take a).length = n_ := ⟨_, rfl⟩
              obtain ⟨n2, hn2⟩ : ∃ n_ : Nat, (X.drop a).length = n_ := ⟨_, rfl⟩
              rw [hn1] at hcut1 hCT
              rw [hn2] at hcut2 hCD
              have HN1 := Aside0.mk (show n1 ≤ 1000000 by rw [← hn1, List.length_take]; omega)
              have HNN := Aside0.mk (show n2 ≤ 1000000 by rw [← hn2, List.length_drop]; omega)
              clear hn1 hn2
              have CT := Aside0.mk hCT
              have CD := Aside0.mk hCD
              clear hCT hCD hC7
              refine region_draw (n := 20) (S := fun W => Below wv.heap.size wv W) (ds := []) #[false, false, false, false, false, false, false, false, false, false, false, false, false, false, false, false, false, false, false, false] (by kernel_rfl) rfl rfl (fun W => Below wv.heap.size wv W) (by repeat (first | (with_reducible first | exact HBX.out | apply below_alloc | apply pw_below_drewN | apply below_drew1) | exact HBX.out)) (fun W h => h) ?_
              rintro ws hws
              refine with_tabW rkeys9tab rkeys9bits (fun HT_ HW_ => ?_)
              have BS := Aside0.mk hws
              clear hws
              refine pure_ (i := 1) (N := some 46) (v := ?_) (a' := ?_) #[false, true, false, false, false, false, false, false, false, false, false, false, false, false, false, false, false, false, false, false] rfl rfl (any_of HT_.out (by kernel_rfl)) (fun _ _ _ h => h) (Or.inl ⟨by rfl, ?_⟩) ?_ ?_
              rotate_left
              · intro w'
                go_simp
                with_reducible rfl
              rotate_left
              · simp only [Act.put, List.setIfInBounds_toArray, List.set_cons_zero, List.set_cons_succ, i64_w, i32_w]
                rfl
              refine pure_ (i := 2) (N := some 47) (v := ?_) (a' := ?_) #[false, true, true, false, false, false, false, false, false, false, false, false, false, false, false, false, false, false, false, false] rfl rfl (any_of HT_.out (by kernel_rfl)) (fun _ _ _ h => h) (Or.inl ⟨by rfl, ?_⟩) ?_ ?_
              rotate_left
              · intro w'
                go_simp
                with_reducible rfl
              rotate_left
              · simp only [Act.put, List.setIfInBounds_toArray, List.set_cons_zero, List.set_cons_succ, i64_w, i32_w]
                rfl
              refine pure_ (i := 3) (N := some 48) (v := ?_) (a' := ?_) #[false, true, true, true, false, false, false, false, false, false, false, false, false, false, false, false, false, false, false, false] rfl rfl (any_of HT_.out (by kernel_rfl)) (fun _ _ _ h => h) (Or.inl ⟨by rfl, ?_⟩) ?_ ?_
              rotate_left
              · intro w'
                go_simp
                with_reducible rfl
              rotate_left
              · simp only [Act.put, List.setIfInBounds_toArray, List.set_cons_zero, List.set_cons_succ, i64_w, i32_w]
                rfl
              refine pure_ (i := 5) (N := some 50) (v := ?_) (a' := ?_) #[false, true, true, true, false, true, false, false, false, false, false, false, false, false, false, false, false, false, false, false] rfl rfl (any_of HT_.out (by kernel_rfl)) (fun _ _ _ h => h) (Or.inl ⟨by rfl, ?_⟩) ?_ ?_
              rotate_left
              · intro w'
                go_simp
                with_reducible rfl
              rotate_left
              · simp only [Act.put, List.setIfInBounds_toArray, List.set_cons_zero, List.set_cons_succ, i64_w, i32_w]
                rfl
              refine pure_ (i := 6) (N := some 51) (v := ?_) (a' := ?_) #[false, true, true, true, false, true, true, false, false, false, false, false, false, false, false, false, false, false, false, false] rfl rfl (any_of HT_.out (by kernel_rfl)) (fun _ _ _ h => h) (Or.inl ⟨by rfl, ?_⟩) ?_ ?_
              rotate_left
              · intro w'
                go_simp
                with_reducible rfl
              rotate_left
              · simp only [Act.put, List.setIfInBounds_toArray, List.set_cons_zero, List.set_cons_succ, i64_w, i32_w]
                rfl
              refine pure_ (i := 7) (N := some 52) (v := ?_) (a' := ?_) #[false, true, true, true, false, true, true, true, false, false, false, false, false, false, false, false, false, false, false, false] rfl rfl (any_of HT_.out (by kernel_rfl)) (fun _ _ _ h => h) (Or.inl ⟨by rfl, ?_⟩) ?_ ?_
              rotate_left
              · intro w'
                go_simp
                with_reducible rfl
              rotate_left
              · simp only [Act.put, List.setIfInBounds_toArray, List.set_cons_zero, List.set_cons_succ, i64_w, i32_w]
                rfl
              refine take_ (i := 8) (N := some 53) (v := ?_) (a' := ?_) #[false, true, true, true, false, true, true, true, true, false, false, false, false, false, false, false, false, false, false, false] rfl rfl (take_ofW HT_.out HW_.out (by kernel_rfl)) (fun _ _ _ h => h) (Or.inl ⟨by rfl, ?_⟩) BS.out ?_ ?_
              rotate_left
              · intro w' hW
                obtain ⟨d0, dr⟩ := cells1d (blk_below H3.out (HB.out.trans (hW.mono HB.out.size)))
                go_simp
                with_reducible rfl
              rotate_left
              · simp only [Act.put, List.setIfInBounds_toArray, List.set_cons_zero, List.set_cons_succ, i64_w, i32_w]
                rfl
              refine pure_ (i := 9) (N := some 54) (v := ?_) (a' := ?_) #[false, true, true, true, false, true, true, true, true, true, false, false, false, false, false, false, false, false, false, false] rfl rfl (any_of HT_.out (by kernel_rfl)) (fun _ _ _ h => h) (Or.inl ⟨by rfl, ?_⟩) ?_ ?_
              rotate_left
              · intro w'
                go_simp
                with_reducible rfl
              rotate_left
              · simp only [Act.put, List.setIfInBounds_toArray, List.set_cons_zero, List.set_cons_succ, i64_w, i32_w]
                rfl
              refine pure_ (i := 10) (N := some 55) (v := ?_) (a' := ?_) #[false, true, true, true, false, true, true, true, true, true, true, false, false, false, false, false, false, false, false, false] rfl rfl (any_of HT_.out (by kernel_rfl)) (fun _ _ _ h => h) (Or.inl ⟨by rfl, ?_⟩) ?_ ?_
              rotate_left
              · intro w'
                go_simp
                with_reducible rfl
              rotate_left
              · simp only [Act.put, List.setIfInBounds_toArray, List.set_cons_zero, List.set_cons_succ, i64_w, i32_w]
                rfl
              refine pure_ (i := 11) (N := some 56) (v := ?_) (a' := ?_) #[false, true, true, true, false, true, true, true, true, true, true, true, false, false, false, false, false, false, false, false] rfl rfl (any_of HT_.out (by kernel_rfl)) (fun _ _ _ h => h) (Or.inl ⟨by rfl, ?_⟩) ?_ ?_
              rotate_left
              · intro w'
                go_simp
                with_reducible rfl
              rotate_left
              · simp only [Act.put, List.setIfInBounds_toArray, List.set_cons_zero, List.set_cons_succ, i64_w, i32_w]
                rfl
              refine take_ (i := 12) (N := some 57) (v := ?_) (a' := ?_) #[false, true, true, true, false, true, true, true, true, true, true, true, true, false, false, false, false, false, false, false] rfl rfl (take_ofW HT_.out HW_.out (by kernel_rfl)) (fun _ _ _ h => h) (Or.inl ⟨by rfl, ?_⟩) BS.out ?_ ?_
              rotate_left
              · intro w' hW
                obtain ⟨t0, t1, t2, t3, t4, t5⟩ := HSL.out _ hW
                try simp only at t0
                go_simp
                with_reducible rfl
              rotate_left
              · simp only [Act.put, List.setIfInBounds_toArray, List.set_cons_zero, List.set_cons_succ, i64_w, i32_w]
                rfl
              refine pure_ (i := 15) (N := some 60) (v := ?_) (a' := ?_) #[false, true, true, true, false, true, true, true, true, true, true, true, true, false, false, true, false, false, false, false] rfl rfl (any_of HT_.out (by kernel_rfl)) (fun _ _ _ h => h) (Or.inl ⟨by rfl, ?_⟩) ?_ ?_
              rotate_left
              · intro w'
                go_simp
                with_reducible rfl
              rotate_left
              · simp only [Act.put, List.setIfInBounds_toArray, List.set_cons_zero, List.set_cons_succ, i64_w, i32_w]
                rfl
              refine pure_ (i := 16) (N := some 61) (v := ?_) (a' := ?_) #[false, true, true, true, false, true, true, true, true, true, true, true, true, false, false, true, true, false, false, false] rfl rfl (any_of HT_.out (by kernel_rfl)) (fun _ _ _ h => h) (Or.inl ⟨by rfl, ?_⟩) ?_ ?_
              rotate_left
              · intro w'
                go_simp
                with_reducible rfl
              rotate_left
              · simp only [Act.put, List.setIfInBounds_toArray, List.set_cons_zero, List.set_cons_succ, i64_w, i32_w]
                rfl
              refine pure_ (i := 17) (N := some 62) (v := ?_) (a' := ?_) #[false, true, true, true, false, true, true, true, true, true, true, true, true, false, false, true, true, true, false, false] rfl rfl (any_of HT_.out (by kernel_rfl)) (fun _ _ _ h => h) (Or.inl ⟨by rfl, ?_⟩) ?_ ?_
              rotate_left
              · intro w'
                go_simp
                with_reducible rfl
              rotate_left
              · simp only [Act.put, List.setIfInBounds_toArray, List.set_cons_zero, List.set_cons_succ, i64_w, i32_w]
                rfl
              refine join_ (σ := Value × Value × Value) 3 #[true, true, true, true, true, true, true, true, true, true, true, true, true, true, false, true, true, true, false, false] (fun s_ => [(45, s_.1), (49, s_.2.1), (58, s_.2.2)]) (fun s_ w' => Aside0 (Below wv.heap.size wv w') ∧ Aside0 (Kd.string.R 9 w' wv.heap.size (fun _ => True) s_.2.1 (X.take a)) ∧ ∃ A_ c_, s_.2.2 = .slice A_ 1 c_ ∧ Aside0 (Kd.string.C w' A_ 1 [key])) ?_ ?_
              rotate_left
              · intro hCont
                refine two_ (i := 0) (j := 13) (Ni := some 45) (Nj := some 58) #[true, true, true, true, false, true, true, true, true, true, true, true, true, false, false, true, true, true, false, false] #[false, true, true, true, false, true, true, true, true, true, true, true, true, true, false, true, true, true, false, false] rfl rfl rfl rfl (two_of HT_.out (by kernel_rfl)) (by decide) (by decide) (fun K hK => ?_) (fun K hK => ?_)
                · skip
                  refine Kd.R_lit_step Kd.string (w0 := wv) wv.heap.size 9 ?hg (N := 45) ?hd (xs := []) (inner := []) (ok := (fun _ => True)) (okp := fun _ => False) ?hr (Reps.none _ _) (fun _ hk => hk.elim) trivial BS.out BS.out.size (by simp) ?_; (case hd => rfl); (case hg => rfl); (case hr => first | (go_simp; done) | (go_simp; rfl))
                  intro v0 w5 hR0 hB0 hg0 hat0
                  have B5 := Aside0.mk hB0
                  have R5 := Aside0.mk hR0
                  clear hR0 hB0 hg0 hat0
                  refine hK.out _ _ B5.out (fun _ => ?_)
                  clear hK K
                  refine norm_ (a' := ?_) ?_ ?_
                  rotate_left
                  · show Act.put _ (some 45) _ = _
                    simp only [Act.put, List.setIfInBounds_toArray, List.set_cons_zero, List.set_cons_succ, i64_w, i32_w]
                    rfl
                  refine two_ (i := 4) (j := 13) (Ni := some 49) (Nj := some 58) #[true, true, true, true, true, true, true, true, true, true, true, true, true, false, false, true, true, true, false, false] #[true, true, true, true, false, true, true, true, true, true, true, true, true, true, false, true, true, true, false, false] rfl rfl rfl rfl (two_of HT_.out (by kernel_rfl)) (by decide) (by decide) (fun K hK => ?_) (fun K hK => ?_)
                  · skip
                    refine Kd.R_append_rows_step Kd.string (w0 := wv) wv.heap.size (by rfl) (.tmp 45) (.tmp 48) 38 9 (.string ⟨#[]⟩) 16 rfl Try.underlying38 infoStr rfl (by decide) (by omega) v0 [] (X.take a) A1 n1 c1 (fun _ => True) (fun _ => False) rfl rfl R5.out (Kd.C_below CT.out B5.out) (fun x cs h => str_KM h) (fun _ h => h.elim) (fun _ _ => trivial) B5.out B5.out.size (by have h1 := HN1.out; have h2 := HNN.out; have h3 := HXL.out; simp; omega) ?_
                    intro v1 w6 hR hB hg hat
                    have B6 := Aside0.mk hB
                    have R6 := Aside0.mk hR
                    clear hR hB hg hat R5 B5
                    refine hK.out _ _ B6.out (fun _ => ?_)
                    clear hK K
                    refine norm_ (a' := ?_) ?_ ?_
                    rotate_left
                    · show Act.put _ (some 49) _ = _
                      simp only [Act.put, List.setIfInBounds_toArray, List.set_cons_zero, List.set_cons_succ, i64_w, i32_w]
                      rfl
                    refine one_ (i := 13) (N := some 58) #[true, true, true, true, true, true, true, true, true, true, true, true, true, true, false, true, true, true, false, false] rfl rfl (one_of HT_.out (by kernel_rfl)) (by decide) (fun K hK => ?_)
                    refine Kd.R_lit_step Kd.string (w0 := wv) wv.heap.size 9 ?hg (N := 58) ?hd (xs := [key]) (inner := [.string key]) (ok := (fun _ => True)) (okp := fun _ => False) ?hr ?hp (fun _ hk => hk.elim) trivial B6.out B6.out.size (by simp) ?_; (case hd => rfl); (case hg => rfl); (case hr => first | (go_simp; done) | (go_simp; rfl)); (case hp => exact (rep_one key))
                    intro v2 w7 hR hB hg hat
                    obtain ⟨A_, c_, rfl, _, hC_⟩ := Kd.R_reads hR
                    have B7 := Aside0.mk hB
                    have R7 := Aside0.mk (Kd.R_below R6.out ⟨hg.os, hg.tape, hg.output, hg.size, fun k hk => hg.block k hk (by simp)⟩)
                    have C7 := Aside0.mk hC_
                    clear hR hB hg hat hC_ R6 B6
                    refine hK.out _ _ B7.out (fun _ => ?_)
                    clear hK K
                    refine norm_ (a' := ?_) ?_ ?_
                    rotate_left
                    · show Act.put _ (some 58) _ = _
                      simp only [Act.put, List.setIfInBounds_toArray, List.set_cons_zero, List.set_cons_succ, i64_w, i32_w]
                      rfl
                    exact hCont (_, _, _) _ ⟨B7, R7, A_, c_, rfl, C7⟩
                  · skip
                    refine Kd.R_lit_step Kd.string (w0 := wv) wv.heap.size 9 ?hg (N := 58) ?hd (xs := [key]) (inner := [.string key]) (ok := (fun k => some k ≠ v0.ownBlock)) (okp := fun _ => False) ?hr ?hp (fun _ hk => hk.elim) (fun e => by have := Kd.R_lt R5.out _ e.symm; omega) B5.out B5.out.size (by simp) ?_; (case hd => rfl); (case hg => rfl); (case hr => first | (go_simp; done) | (go_simp; rfl)); (case hp => exact (rep_one key))
                    intro v2 w6 hR hB hg hat
                    have B6 := Aside0.mk hB
                    have R6 := Aside0.mk (Kd.R_below R5.out ⟨hg.os, hg.tape, hg.output, hg.size, fun k hk => hg.block k hk (by simp)⟩)
                    have V6 := Aside0.mk hR
                    clear hR hB hg hat R5 B5
                    refine hK.out _ _ B6.out (fun _ => ?_)
                    clear hK K
                    refine norm_ (a' := ?_) ?_ ?_
                    rotate_left
                    · show Act.put _ (some 58) _ = _
                      simp only [Act.put, List.setIfInBounds_toArray, List.set_cons_zero, List.set_cons_succ, i64_w, i32_w]
                      rfl
                    refine one_ (i := 4) (N := some 49) #[true, true, true, true, true, true, true, true, true, true, true, true, true, true, false, true, true, true, false, false] rfl rfl (one_of HT_.out (by kernel_rfl)) (by decide) (fun K hK => ?_)
                    refine Kd.R_append_rows_step Kd.string (w0 := wv) wv.heap.size (by rfl) (.tmp 45) (.tmp 48) 38 9 (.string ⟨#[]⟩) 16 rfl Try.underlying38 infoStr rfl (by decide) (by omega) v0 [] (X.take a) A1 n1 c1 (fun _ => True) (fun _ => False) rfl rfl R6.out (Kd.C_below CT.out B6.out) (fun x cs h => str_KM h) (fun _ h => h.elim) (fun _ _ => trivial) B6.out B6.out.size (by have h1 := HN1.out; have h2 := HNN.out; have h3 := HXL.out; simp; omega) ?_
                    intro v1 w7 hR hB hg hat
                    obtain ⟨A_, c_, rfl, _, hC_⟩ := Kd.R_reads (Kd.R_grown V6.out hg (fun _ h => h))
                    have B7 := Aside0.mk hB
                    have R7 := Aside0.mk hR
                    have C7 := Aside0.mk hC_
                    clear hR hB hg hat hC_ R6 B6 V6
                    refine hK.out _ _ B7.out (fun _ => ?_)
                    clear hK K
                    refine norm_ (a' := ?_) ?_ ?_
                    rotate_left
                    · show Act.put _ (some 49) _ = _
                      simp only [Act.put, List.setIfInBounds_toArray, List.set_cons_zero, List.set_cons_succ, i64_w, i32_w]
                      rfl
                    exact hCont (_, _, _) _ ⟨B7, R7, A_, c_, rfl, C7⟩
                · skip
                  refine Kd.R_lit_step Kd.string (w0 := wv) wv.heap.size 9 ?hg (N := 58) ?hd (xs := [key]) (inner := [.string key]) (ok := (fun _ => True)) (okp := fun _ => False) ?hr ?hp (fun _ hk => hk.elim) trivial BS.out BS.out.size (by simp) ?_; (case hd => rfl); (case hg => rfl); (case hr => first | (go_simp; done) | (go_simp; rfl)); (case hp => exact (rep_one key))
                  intro v2 w5 hR hB hg hat
                  have B5 := Aside0.mk hB
                  have V5 := Aside0.mk hR
                  clear hR hB hg hat
                  refine hK.out _ _ B5.out (fun _ => ?_)
                  clear hK K
                  refine norm_ (a' := ?_) ?_ ?_
                  rotate_left
                  · show Act.put _ (some 58) _ = _
                    simp only [Act.put, List.setIfInBounds_toArray, List.set_cons_zero, List.set_cons_succ, i64_w, i32_w]
                    rfl
                  refine one_ (i := 0) (N := some 45) #[true, true, true, true, false, true, true, true, true, true, true, true, true, true, false, true, true, true, false, false] rfl rfl (one_of HT_.out (by kernel_rfl)) (by decide) (fun K hK => ?_)
                  refine Kd.R_lit_step Kd.string (w0 := wv) wv.heap.size 9 ?hg (N := 45) ?hd (xs := []) (inner := []) (ok := (fun _ => True)) (okp := fun _ => False) ?hr (Reps.none _ _) (fun _ hk => hk.elim) trivial B5.out B5.out.size (by simp) ?_; (case hd => rfl); (case hg => rfl); (case hr => first | (go_simp; done) | (go_simp; rfl))
                  intro v0 w6 hR hB hg hat
                  obtain ⟨b_, hb_, hb2_⟩ := hat
                  have B6 := Aside0.mk hB
                  have R6 := Aside0.mk hR
                  have V6 := Aside0.mk (Kd.R_mono (Kd.R_below (Kd.R_bound V5.out) ⟨hg.os, hg.tape, hg.output, hg.size, fun k hk => hg.block k hk (by simp)⟩) (ok' := fun k => some k ≠ v0.ownBlock) (fun k hk e => by rw [hb_] at e; injection e with e; have := hk.2.2.1; omega))
                  clear hR hB hg hb_ hb2_ B5 V5
                  refine hK.out _ _ B6.out (fun _ => ?_)
                  clear hK K
                  refine norm_ (a' := ?_) ?_ ?_
                  rotate_left
                  · show Act.put _ (some 45) _ = _
                    simp only [Act.put, List.setIfInBounds_toArray, List.set_cons_zero, List.set_cons_succ, i64_w, i32_w]
                    rfl
                  refine one_ (i := 4) (N := some 49) #[true, true, true, true, true, true, true, true, true, true, true, true, true, true, false, true, true, true, false, false] rfl rfl (one_of HT_.out (by kernel_rfl)) (by decide) (fun K hK => ?_)
                  refine Kd.R_append_rows_step Kd.string (w0 := wv) wv.heap.size (by rfl) (.tmp 45) (.tmp 48) 38 9 (.string ⟨#[]⟩) 16 rfl Try.underlying38 infoStr rfl (by decide) (by omega) v0 [] (X.take a) A1 n1 c1 (fun _ => True) (fun _ => False) rfl rfl R6.out (Kd.C_below CT.out B6.out) (fun x cs h => str_KM h) (fun _ h => h.elim) (fun _ _ => trivial) B6.out B6.out.size (by have h1 := HN1.out; have h2 := HNN.out; have h3 := HXL.out; simp; omega) ?_
                  intro v1 w7 hR hB hg hat
                  obtain ⟨A_, c_, rfl, _, hC_⟩ := Kd.R_reads (Kd.R_grown V6.out hg (fun _ h => h))
                  have B7 := Aside0.mk hB
                  have R7 := Aside0.mk hR
                  have C7 := Aside0.mk hC_
                  clear hR hB hg hat hC_ R6 B6 V6
                  refine hK.out _ _ B7.out (fun _ => ?_)
                  clear hK K
                  refine norm_ (a' := ?_) ?_ ?_
                  rotate_left
                  · show Act.put _ (some 49) _ = _
                    simp only [Act.put, List.setIfInBounds_toArray, List.set_cons_zero, List.set_cons_succ, i64_w, i32_w]
                    rfl
                  exact hCont (_, _, _) _ ⟨B7, R7, A_, c_, rfl, C7⟩
              rintro ⟨v0, v1, v2⟩ w7 ⟨B7, R7, A_, c_, hv_, C7⟩
              simp only at R7 hv_
              subst hv_
              refine norm_ (a' := ?_) ?_ ?_
              rotate_left
              · simp only [putAll, List.foldl_cons, List.foldl_nil, Act.put, List.setIfInBounds_toArray, List.set_cons_zero, List.set_cons_succ]
                rfl
              refine one_ (i := 14) (N := some 59) #[true, true, true, true, true, true, true, true, true, true, true, true, true, true, true, true, true, true, false, false] rfl rfl (one_of HT_.out (by kernel_rfl)) (by decide) (fun K hK => ?_)
              refine Kd.R_append_rows_step Kd.string (w0 := wv) wv.heap.size (by rfl) (.tmp 49) (.tmp 58) 38 9 (.string ⟨#[]⟩) 16 rfl Try.underlying38 infoStr rfl (by decide) (by omega) v1 (X.take a) [key] A_ 1 c_ (fun _ => True) (fun _ => False) rfl rfl R7.out C7.out (fun x cs h => str_KM h) (fun _ h => h.elim) (fun _ _ => trivial) B7.out B7.out.size (by have h1 := HN1.out; have h2 := HNN.out; have h3 := HXL.out; simp; omega) ?_
              intro v3 w8 hR hB hg hat
              have B8 := Aside0.mk hB
              have R8 := Aside0.mk hR
              clear hR hB hg hat B7 R7 C7
              refine hK.out _ _ B8.out (fun _ => ?_)
              clear hK K
              refine norm_ (a' := ?_) ?_ ?_
              rotate_left
              · show Act.put _ (some 59) _ = _
                simp only [Act.put, List.setIfInBounds_toArray, List.set_cons_zero, List.set_cons_succ, i64_w, i32_w]
                rfl
              refine one_ (i := 18) (N := some 63) #[true, true, true, true, true, true, true, true, true, true, true, true, true, true, true, true, true, true, true, false] rfl rfl (one_of HT_.out (by kernel_rfl)) (by decide) (fun K hK => ?_)
              refine Kd.R_append_rows_step Kd.string (w0 := wv) wv.heap.size (by rfl) (.tmp 59) (.tmp 62) 38 9 (.string ⟨#[]⟩) 16 rfl Try.underlying38 infoStr rfl (by decide) (by omega) v3 ((X.take a) ++ [key]) (X.drop a) A2 n2 c2 (fun _ => True) (fun _ => False) rfl rfl R8.out (Kd.C_below CD.out B8.out) (fun x cs h => str_KM h) (fun _ h => h.elim) (fun _ _ => trivial) B8.out B8.out.size (by have h1 := HN1.out; have h2 := HNN.out; have h3 := HXL.out; simp; omega) ?_
              intro v4 w9 hR hB hg hat
              have B9 := Aside0.mk hB
              have R9 := Aside0.mk hR
              clear hR hB hg hat B8 R8
              refine hK.out _ _ B9.out (fun _ => ?_)
              clear hK K
              refine norm_ (a' := ?_) ?_ ?_
              rotate_left
              · show Act.put _ (some 63) _ = _
                simp only [Act.put, List.setIfInBounds_toArray, List.set_cons_zero, List.set_cons_succ, i64_w, i32_w]
                rfl
              refine pure_ (i := 19) (N := some 3) (v := ?_) (a' := ?_) #[true, true, true, true, true, true, true, true, true, true, true, true, true, true, true, true, true, true, true, true] rfl rfl (any_of HT_.out (by kernel_rfl)) (fun _ _ _ h => h) (Or.inl ⟨by rfl, ?_⟩) ?_ ?_
              rotate_left
              · intro w'
                go_simp
                with_reducible rfl
              rotate_left
              · simp only [Act.put, List.setIfInBounds_toArray, List.set_cons_zero, List.set_cons_succ, i64_w, i32_w]
                rfl
              refine done_ (done_of HT_.out (by kernel_rfl)) ?_
              rw [HI.out, ← HN2.out] at R9
              go_wp2_with fail
              go_roundw
              case rel => exact ⟨i + 1, by omega, by go_num, ⟨Kd.R_lower R9.out HB.out.size⟩, ⟨HB.out.trans (B9.out.mono HB.out.size)⟩⟩
              case measure => simp [intOf]; omega
          · have d3 : decide ((a : Int) < (X.length : Int)) = false := decide_eq_false (by omega)
            have haa : a = X.length := by omega
            subst haa
            have HI := Aside0.mk (insK_at key X X.length HA.out (fun hh => by omega) (Nat.le_refl _))
            go_wp2
            repeat (go_quiet (fail); try go_wp2)
            clear t0 t1 t2 t3 t4 t5 d0 dr
            have hC7 := (Kd.R_reads' HR.out)
            obtain ⟨A1, c1, A2, c2, hcut1, hCT, hcut2, hCD⟩ := cut_two (P := Try.prog) 38 9 Try.underlying38 infoStr hC7.2.2 hC7.2.1 X.length ha
            obtain ⟨n1, hn1⟩ : ∃ n_ : Nat, (X.take X.length).length = n_ := ⟨_, rfl⟩
            obtain ⟨n2, hn2⟩ : ∃ n_ : Nat, (X.drop X.length).length = n_ := ⟨_, rfl⟩
            rw [hn1] at hcut1 hCT
            rw [hn2] at hcut2 hCD
            have HN1 := Aside0.mk (show n1 ≤ 1000000 by rw [← hn1, List.length_take]; omega)
            have HNN := Aside0.mk (show n2 ≤ 1000000 by rw [← hn2, List.length_drop]; omega)
            clear hn1 hn2
            have CT := Aside0.mk hCT
            have CD := Aside0.mk hCD
            clear hCT hCD hC7
            refine region_draw (n := 20) (S := fun W => Below wv.heap.size wv W) (ds := []) #[false, false, false, false, false, false, false, false, false, false, false, false, false, false, false, false, false, false, false, false] (by kernel_rfl) rfl rfl (fun W => Below wv.heap.size wv W) (by repeat (first | (with_reducible first | exact HBX.out | apply below_alloc | apply pw_below_drewN | apply below_drew1) | exact HBX.out)) (fun W h => h) ?_
            rintro ws hws
            refine with_tabW rkeys9tab rkeys9bits (fun HT_ HW_ => ?_)
            have BS := Aside0.mk hws
            clear hws
            refine pure_ (i := 1) (N := some 46) (v := ?_) (a' := ?_) #[false, true, false, false, false, false, false, false, false, false, false, false, false, false, false, false, false, false, false, false] rfl rfl (any_of HT_.out (by kernel_rfl)) (fun _ _ _ h => h) (Or.inl ⟨by rfl, ?_⟩) ?_ ?_
            rotate_left
            · intro w'
              go_simp
              with_reducible rfl
            rotate_left
            · simp only [Act.put, List.setIfInBounds_toArray, List.set_cons_zero, List.set_cons_succ, i64_w, i32_w]
              rfl
            refine pure_ (i := 2) (N := some 47) (v := ?_) (a' := ?_) #[false, true, true, false, false, false, false, false, false, false, false, false, false, false, false, false, false, false, false, false] rfl rfl (any_of HT_.out (by kernel_rfl)) (fun _ _ _ h => h) (Or.inl ⟨by rfl, ?_⟩) ?_ ?_
            rotate_left
            · intro w'
              go_simp
              with_reducible rfl
            rotate_left
            · simp only [Act.put, List.setIfInBounds_toArray, List.set_cons_zero, List.set_cons_succ, i64_w, i32_w]
              rfl
            refine pure_ (i := 3) (N := some 48) (v := ?_) (a' := ?_) #[false, true, true, true, false, false, false, false, false, false, false, false, false, false, false, false, false, false, false, false] rfl rfl (any_of HT_.out (by kernel_rfl)) (fun _ _ _ h => h) (Or.inl ⟨by rfl, ?_⟩) ?_ ?_
            rotate_left
            · intro w'
              go_simp
              with_reducible rfl
            rotate_left
            · simp only [Act.put, List.setIfInBounds_toArray, List.set_cons_zero, List.set_cons_succ, i64_w, i32_w]
              rfl
            refine pure_ (i := 5) (N := some 50) (v := ?_) (a' := ?_) #[false, true, true, true, false, true, false, false, false, false, false, false, false, false, false, false, false, false, false, false] rfl rfl (any_of HT_.out (by kernel_rfl)) (fun _ _ _ h => h) (Or.inl ⟨by rfl, ?_⟩) ?_ ?_
            rotate_left
            · intro w'
              go_simp
              with_reducible rfl
            rotate_left
            · simp only [Act.put, List.setIfInBounds_toArray, List.set_cons_zero, List.set_cons_succ, i64_w, i32_w]
              rfl
            refine pure_ (i := 6) (N := some 51) (v := ?_) (a' := ?_) #[false, true, true, true, false, true, true, false, false, false, false, false, false, false, false, false, false, false, false, false] rfl rfl (any_of HT_.out (by kernel_rfl)) (fun _ _ _ h => h) (Or.inl ⟨by rfl, ?_⟩) ?_ ?_
            rotate_left
            · intro w'
              go_simp
              with_reducible rfl
            rotate_left
            · simp only [Act.put, List.setIfInBounds_toArray, List.set_cons_zero, List.set_cons_succ, i64_w, i32_w]
              rfl
            refine pure_ (i := 7) (N := some 52) (v := ?_) (a' := ?_) #[false, true, true, true, false, true, true, true, false, false, false, false, false, false, false, false, false, false, false, false] rfl rfl (any_of HT_.out (by kernel_rfl)) (fun _ _ _ h => h) (Or.inl ⟨by rfl, ?_⟩) ?_ ?_
            rotate_left
            · intro w'
              go_simp
              with_reducible rfl
            rotate_left
            · simp only [Act.put, List.setIfInBounds_toArray, List.set_cons_zero, List.set_cons_succ, i64_w, i32_w]
              rfl
            refine take_ (i := 8) (N := some 53) (v := ?_) (a' := ?_) #[false, true, true, true, false, true, true, true, true, false, false, false, false, false, false, false, false, false, false, false] rfl rfl (take_ofW HT_.out HW_.out (by kernel_rfl)) (fun _ _ _ h => h) (Or.inl ⟨by rfl, ?_⟩) BS.out ?_ ?_
            rotate_left
            · intro w' hW
              obtain ⟨d0, dr⟩ := cells1d (blk_below H3.out (HB.out.trans (hW.mono HB.out.size)))
              go_simp
              with_reducible rfl
            rotate_left
            · simp only [Act.put, List.setIfInBounds_toArray, List.set_cons_zero, List.set_cons_succ, i64_w, i32_w]
              rfl
            refine pure_ (i := 9) (N := some 54) (v := ?_) (a' := ?_) #[false, true, true, true, false, true, true, true, true, true, false, false, false, false, false, false, false, false, false, false] rfl rfl (any_of HT_.out (by kernel_rfl)) (fun _ _ _ h => h) (Or.inl ⟨by rfl, ?_⟩) ?_ ?_
            rotate_left
            · intro w'
              go_simp
              with_reducible rfl
            rotate_left
            · simp only [Act.put, List.setIfInBounds_toArray, List.set_cons_zero, List.set_cons_succ, i64_w, i32_w]
              rfl
            refine pure_ (i := 10) (N := some 55) (v := ?_) (a' := ?_) #[false, true, true, true, false, true, true, true, true, true, true, false, false, false, false, false, false, false, false, false] rfl rfl (any_of HT_.out (by kernel_rfl)) (fun _ _ _ h => h) (Or.inl ⟨by rfl, ?_⟩) ?_ ?_
            rotate_left
            · intro w'
              go_simp
              with_reducible rfl
            rotate_left
            · simp only [Act.put, List.setIfInBounds_toArray, List.set_cons_zero, List.set_cons_succ, i64_w, i32_w]
              rfl
            refine pure_ (i := 11) (N := some 56) (v := ?_) (a' := ?_) #[false, true, true, true, false, true, true, true, true, true, true, true, false, false, false, false, false, false, false, false] rfl rfl (any_of HT_.out (by kernel_rfl)) (fun _ _ _ h => h) (Or.inl ⟨by rfl, ?_⟩) ?_ ?_
            rotate_left
            · intro w'
              go_simp
              with_reducible rfl
            rotate_left
            · simp only [Act.put, List.setIfInBounds_toArray, List.set_cons_zero, List.set_cons_succ, i64_w, i32_w]
              rfl
            refine take_ (i := 12) (N := some 57) (v := ?_) (a' := ?_) #[false, true, true, true, false, true, true, true, true, true, true, true, true, false, false, false, false, false, false, false] rfl rfl (take_ofW HT_.out HW_.out (by kernel_rfl)) (fun _ _ _ h => h) (Or.inl ⟨by rfl, ?_⟩) BS.out ?_ ?_
            rotate_left
            · intro w' hW
              obtain ⟨t0, t1, t2, t3, t4, t5⟩ := HSL.out _ hW
              try simp only at t0
              go_simp
              with_reducible rfl
            rotate_left
            · simp only [Act.put, List.setIfInBounds_toArray, List.set_cons_zero, List.set_cons_succ, i64_w, i32_w]
              rfl
            refine pure_ (i := 15) (N := some 60) (v := ?_) (a' := ?_) #[false, true, true, true, false, true, true, true, true, true, true, true, true, false, false, true, false, false, false, false] rfl rfl (any_of HT_.out (by kernel_rfl)) (fun _ _ _ h => h) (Or.inl ⟨by rfl, ?_⟩) ?_ ?_
            rotate_left
            · intro w'
              go_simp
              with_reducible rfl
            rotate_left
            · simp only [Act.put, List.setIfInBounds_toArray, List.set_cons_zero, List.set_cons_succ, i64_w, i32_w]
              rfl
            refine pure_ (i := 16) (N := some 61) (v := ?_) (a' := ?_) #[false, true, true, true, false, true, true, true, true, true, true, true, true, false, false, true, true, false, false, false] rfl rfl (any_of HT_.out (by kernel_rfl)) (fun _ _ _ h => h) (Or.inl ⟨by rfl, ?_⟩) ?_ ?_
            rotate_left
            · intro w'
              go_simp
              with_reducible rfl
            rotate_left
            · simp only [Act.put, List.setIfInBounds_toArray, List.set_cons_zero, List.set_cons_succ, i64_w, i32_w]
              rfl
            refine pure_ (i := 17) (N := some 62) (v := ?_) (a' := ?_) #[false, true, true, true, false, true, true, true, true, true, true, true, true, false, false, true, true, true, false, false] rfl rfl (any_of HT_.out (by kernel_rfl)) (fun _ _ _ h => h) (Or.inl ⟨by rfl, ?_⟩) ?_ ?_
            rotate_left
            · intro w'
              go_simp
              with_reducible rfl
            rotate_left
            · simp only [Act.put, List.setIfInBounds_toArray, List.set_cons_zero, List.set_cons_succ, i64_w, i32_w]
              rfl
            refine join_ (σ := Value × Value × Value) 3 #[true, true, true, true, true, true, true, true, true, true, true, true, true, true, false, true, true, true, false, false] (fun s_ => [(45, s_.1), (49, s_.2.1), (58, s_.2.2)]) (fun s_ w' => Aside0 (Below wv.heap.size wv w') ∧ Aside0 (Kd.string.R 9 w' wv.heap.size (fun _ => True) s_.2.1 (X.take X.length)) ∧ ∃ A_ c_, s_.2.2 = .slice A_ 1 c_ ∧ Aside0 (Kd.string.C w' A_ 1 [key])) ?_ ?_
            rotate_left
            · intro hCont
              refine two_ (i := 0) (j := 13) (Ni := some 45) (Nj := some 58) #[true, true, true, true, false, true, true, true, true, true, true, true, true, false, false, true, true, true, false, false] #[false, true, true, true, false, true, true, true, true, true, true, true, true, true, false, true, true, true, false, false] rfl rfl rfl rfl (two_of HT_.out (by kernel_rfl)) (by decide) (by decide) (fun K hK => ?_) (fun K hK => ?_)
              · skip
                refine Kd.R_lit_step Kd.string (w0 := wv) wv.heap.size 9 ?hg (N := 45) ?hd (xs := []) (inner := []) (ok := (fun _ => True)) (okp := fun _ => False) ?hr (Reps.none _ _) (fun _ hk => hk.elim) trivial BS.out BS.out.size (by simp) ?_; (case hd => rfl); (case hg => rfl); (case hr => first | (go_simp; done) | (go_simp; rfl))
                intro v0 w5 hR0 hB0 hg0 hat0
                have B5 := Aside0.mk hB0
                have R5 := Aside0.mk hR0
                clear hR0 hB0 hg0 hat0
                refine hK.out _ _ B5.out (fun _ => ?_)
                clear hK K
                refine norm_ (a' := ?_) ?_ ?_
                rotate_left
                · show Act.put _ (some 45) _ = _
                  simp only [Act.put, List.setIfInBounds_toArray, List.set_cons_zero, List.set_cons_succ, i64_w, i32_w]
                  rfl
                refine two_ (i := 4) (j := 13) (Ni := some 49) (Nj := some 58) #[true, true, true, true, true, true, true, true, true, true, true, true, true, false, false, true, true, true, false, false] #[true, true, true, true, false, true, true, true, true, true, true, true, true, true, false, true, true, true, false, false] rfl rfl rfl rfl (two_of HT_.out (by kernel_rfl)) (by decide) (by decide) (fun K hK => ?_) (fun K hK => ?_)
                · skip
                  refine Kd.R_append_rows_step Kd.string (w0 := wv) wv.heap.size (by rfl) (.tmp 45) (.tmp 48) 38 9 (.string ⟨#[]⟩) 16 rfl Try.underlying38 infoStr rfl (by decide) (by omega) v0 [] (X.take X.length) A1 n1 c1 (fun _ => True) (fun _ => False) rfl rfl R5.out (Kd.C_below CT.out B5.out) (fun x cs h => str_KM h) (fun _ h => h.elim) (fun _ _ => trivial) B5.out B5.out.size (by have h1 := HN1.out; have h2 := HNN.out; have h3 := HXL.out; simp; omega) ?_
                  intro v1 w6 hR hB hg hat
                  have B6 := Aside0.mk hB
                  have R6 := Aside0.mk hR
                  clear hR hB hg hat R5 B5
                  refine hK.out _ _ B6.out (fun _ => ?_)
                  clear hK K
                  refine norm_ (a' := ?_) ?_ ?_
                  rotate_left
                  · show Act.put _ (some 49) _ = _
                    simp only [Act.put, List.setIfInBounds_toArray, List.set_cons_zero, List.set_cons_succ, i64_w, i32_w]
                    rfl
                  refine one_ (i := 13) (N := some 58) #[true, true, true, true, true, true, true, true, true, true, true, true, true, true, false, true, true, true, false, false] rfl rfl (one_of HT_.out (by kernel_rfl)) (by decide) (fun K hK => ?_)
                  refine Kd.R_lit_step Kd.string (w0 := wv) wv.heap.size 9 ?hg (N := 58) ?hd (xs := [key]) (inner := [.string key]) (ok := (fun _ => True)) (okp := fun _ => False) ?hr ?hp (fun _ hk => hk.elim) trivial B6.out B6.out.size (by simp) ?_; (case hd => rfl); (case hg => rfl); (case hr => first | (go_simp; done) | (go_simp; rfl)); (case hp => exact (rep_one key))
                  intro v2 w7 hR hB hg hat
                  obtain ⟨A_, c_, rfl, _, hC_⟩ := Kd.R_reads hR
                  have B7 := Aside0.mk hB
                  have R7 := Aside0.mk (Kd.R_below R6.out ⟨hg.os, hg.tape, hg.output, hg.size, fun k hk => hg.block k hk (by simp)⟩)
                  have C7 := Aside0.mk hC_
                  clear hR hB hg hat hC_ R6 B6
                  refine hK.out _ _ B7.out (fun _ => ?_)
                  clear hK K
                  refine norm_ (a' := ?_) ?_ ?_
                  rotate_left
                  · show Act.put _ (some 58) _ = _
                    simp only [Act.put, List.setIfInBounds_toArray, List.set_cons_zero, List.set_cons_succ, i64_w, i32_w]
                    rfl
                  exact hCont (_, _, _) _ ⟨B7, R7, A_, c_, rfl, C7⟩
                · skip
                  refine Kd.R_lit_step Kd.string (w0 := wv) wv.heap.size 9 ?hg (N := 58) ?hd (xs := [key]) (inner := [.string key]) (ok := (fun k => some k ≠ v0.ownBlock)) (okp := fun _ => False) ?hr ?hp (fun _ hk => hk.elim) (fun e => by have := Kd.R_lt R5.out _ e.symm; omega) B5.out B5.out.size (by simp) ?_; (case hd => rfl); (case hg => rfl); (case hr => first | (go_simp; done) | (go_simp; rfl)); (case hp => exact (rep_one key))
                  intro v2 w6 hR hB hg hat
                  have B6 := Aside0.mk hB
                  have R6 := Aside0.mk (Kd.R_below R5.out ⟨hg.os, hg.tape, hg.output, hg.size, fun k hk => hg.block k hk (by simp)⟩)
                  have V6 := Aside0.mk hR
                  clear hR hB hg hat R5 B5
                  refine hK.out _ _ B6.out (fun _ => ?_)
                  clear hK K
                  refine norm_ (a' := ?_) ?_ ?_
                  rotate_left
                  · show Act.put _ (some 58) _ = _
                    simp only [Act.put, List.setIfInBounds_toArray, List.set_cons_zero, List.set_cons_succ, i64_w, i32_w]
                    rfl
                  refine one_ (i := 4) (N := some 49) #[true, true, true, true, true, true, true, true, true, true, true, true, true, true, false, true, true, true, false, false] rfl rfl (one_of HT_.out (by kernel_rfl)) (by decide) (fun K hK => ?_)
                  refine Kd.R_append_rows_step Kd.string (w0 := wv) wv.heap.size (by rfl) (.tmp 45) (.tmp 48) 38 9 (.string ⟨#[]⟩) 16 rfl Try.underlying38 infoStr rfl (by decide) (by omega) v0 [] (X.take X.length) A1 n1 c1 (fun _ => True) (fun _ => False) rfl rfl R6.out (Kd.C_below CT.out B6.out) (fun x cs h => str_KM h) (fun _ h => h.elim) (fun _ _ => trivial) B6.out B6.out.size (by have h1 := HN1.out; have h2 := HNN.out; have h3 := HXL.out; simp; omega) ?_
                  intro v1 w7 hR hB hg hat
                  obtain ⟨A_, c_, rfl, _, hC_⟩ := Kd.R_reads (Kd.R_grown V6.out hg (fun _ h => h))
                  have B7 := Aside0.mk hB
                  have R7 := Aside0.mk hR
                  have C7 := Aside0.mk hC_
                  clear hR hB hg hat hC_ R6 B6 V6
                  refine hK.out _ _ B7.out (fun _ => ?_)
                  clear hK K
                  refine norm_ (a' := ?_) ?_ ?_
                  rotate_left
                  · show Act.put _ (some 49) _ = _
                    simp only [Act.put, List.setIfInBounds_toArray, List.set_cons_zero, List.set_cons_succ, i64_w, i32_w]
                    rfl
                  exact hCont (_, _, _) _ ⟨B7, R7, A_, c_, rfl, C7⟩
              · skip
                refine Kd.R_lit_step Kd.string (w0 := wv) wv.heap.size 9 ?hg (N := 58) ?hd (xs := [key]) (inner := [.string key]) (ok := (fun _ => True)) (okp := fun _ => False) ?hr ?hp (fun _ hk => hk.elim) trivial BS.out BS.out.size (by simp) ?_; (case hd => rfl); (case hg => rfl); (case hr => first | (go_simp; done) | (go_simp; rfl)); (case hp => exact (rep_one key))
                intro v2 w5 hR hB hg hat
                have B5 := Aside0.mk hB
                have V5 := Aside0.mk hR
                clear hR hB hg hat
                refine hK.out _ _ B5.out (fun _ => ?_)
                clear hK K
                refine norm_ (a' := ?_) ?_ ?_
                rotate_left
                · show Act.put _ (some 58) _ = _
                  simp only [Act.put, List.setIfInBounds_toArray, List.set_cons_zero, List.set_cons_succ, i64_w, i32_w]
                  rfl
                refine one_ (i := 0) (N := some 45) #[true, true, true, true, false, true, true, true, true, true, true, true, true, true, false, true, true, true, false, false] rfl rfl (one_of HT_.out (by kernel_rfl)) (by decide) (fun K hK => ?_)
                refine Kd.R_lit_step Kd.string (w0 := wv) wv.heap.size 9 ?hg (N := 45) ?hd (xs := []) (inner := []) (ok := (fun _ => True)) (okp := fun _ => False) ?hr (Reps.none _ _) (fun _ hk => hk.elim) trivial B5.out B5.out.size (by simp) ?_; (case hd => rfl); (case hg => rfl); (case hr => first | (go_simp; done) | (go_simp; rfl))
                intro v0 w6 hR hB hg hat
                obtain ⟨b_, hb_, hb2_⟩ := hat
                have B6 := Aside0.mk hB
                have R6 := Aside0.mk hR
                have V6 := Aside0.mk (Kd.R_mono (Kd.R_below (Kd.R_bound V5.out) ⟨hg.os, hg.tape, hg.output, hg.size, fun k hk => hg.block k hk (by simp)⟩) (ok' := fun k => some k ≠ v0.ownBlock) (fun k hk e => by rw [hb_] at e; injection e with e; have := hk.2.2.1; omega))
                clear hR hB hg hb_ hb2_ B5 V5
                refine hK.out _ _ B6.out (fun _ => ?_)
                clear hK K
                refine norm_ (a' := ?_) ?_ ?_
                rotate_left
                · show Act.put _ (some 45) _ = _
                  simp only [Act.put, List.setIfInBounds_toArray, List.set_cons_zero, List.set_cons_succ, i64_w, i32_w]
                  rfl
                refine one_ (i := 4) (N := some 49) #[true, true, true, true, true, true, true, true, true, true, true, true, true, true, false, true, true, true, false, false] rfl rfl (one_of HT_.out (by kernel_rfl)) (by decide) (fun K hK => ?_)
                refine Kd.R_append_rows_step Kd.string (w0 := wv) wv.heap.size (by rfl) (.tmp 45) (.tmp 48) 38 9 (.string ⟨#[]⟩) 16 rfl Try.underlying38 infoStr rfl (by decide) (by omega) v0 [] (X.take X.length) A1 n1 c1 (fun _ => True) (fun _ => False) rfl rfl R6.out (Kd.C_below CT.out B6.out) (fun x cs h => str_KM h) (fun _ h => h.elim) (fun _ _ => trivial) B6.out B6.out.size (by have h1 := HN1.out; have h2 := HNN.out; have h3 := HXL.out; simp; omega) ?_
                intro v1 w7 hR hB hg hat
                obtain ⟨A_, c_, rfl, _, hC_⟩ := Kd.R_reads (Kd.R_grown V6.out hg (fun _ h => h))
                have B7 := Aside0.mk hB
                have R7 := Aside0.mk hR
                have C7 := Aside0.mk hC_
                clear hR hB hg hat hC_ R6 B6 V6
                refine hK.out _ _ B7.out (fun _ => ?_)
                clear hK K
                refine norm_ (a' := ?_) ?_ ?_
                rotate_left
                · show Act.put _ (some 49) _ = _
                  simp only [Act.put, List.setIfInBounds_toArray, List.set_cons_zero, List.set_cons_succ, i64_w, i32_w]
                  rfl
                exact hCont (_, _, _) _ ⟨B7, R7, A_, c_, rfl, C7⟩
            rintro ⟨v0, v1, v2⟩ w7 ⟨B7, R7, A_, c_, hv_, C7⟩
            simp only at R7 hv_
            subst hv_
            refine norm_ (a' := ?_) ?_ ?_
            rotate_left
            · simp only [putAll, List.foldl_cons, List.foldl_nil, Act.put, List.setIfInBounds_toArray, List.set_cons_zero, List.set_cons_succ]
              rfl
            refine one_ (i := 14) (N := some 59) #[true, true, true, true, true, true, true, true, true, true, true, true, true, true, true, true, true, true, false, false] rfl rfl (one_of HT_.out (by kernel_rfl)) (by decide) (fun K hK => ?_)
            refine Kd.R_append_rows_step Kd.string (w0 := wv) wv.heap.size (by rfl) (.tmp 49) (.tmp 58) 38 9 (.string ⟨#[]⟩) 16 rfl Try.underlying38 infoStr rfl (by decide) (by omega) v1 (X.take X.length) [key] A_ 1 c_ (fun _ => True) (fun _ => False) rfl rfl R7.out C7.out (fun x cs h => str_KM h) (fun _ h => h.elim) (fun _ _ => trivial) B7.out B7.out.size (by have h1 := HN1.out; have h2 := HNN.out; have h3 := HXL.out; simp; omega) ?_
            intro v3 w8 hR hB hg hat
            have B8 := Aside0.mk hB
            have R8 := Aside0.mk hR
            clear hR hB hg hat B7 R7 C7
            refine hK.out _ _ B8.out (fun _ => ?_)
            clear hK K
            refine norm_ (a' := ?_) ?_ ?_
            rotate_left
            · show Act.put _ (some 59) _ = _
              simp only [Act.put, List.setIfInBounds_toArray, List.set_cons_zero, List.set_cons_succ, i64_w, i32_w]
              rfl
            refine one_ (i := 18) (N := some 63) #[true, true, true, true, true, true, true, true, true, true, true, true, true, true, true, true, true, true, true, false] rfl rfl (one_of HT_.out (by kernel_rfl)) (by decide) (fun K hK => ?_)
            refine Kd.R_append_rows_step Kd.string (w0 := wv) wv.heap.size (by rfl) (.tmp 59) (.tmp 62) 38 9 (.string ⟨#[]⟩) 16 rfl Try.underlying38 infoStr rfl (by decide) (by omega) v3 ((X.take X.length) ++ [key]) (X.drop X.length) A2 n2 c2 (fun _ => True) (fun _ => False) rfl rfl R8.out (Kd.C_below CD.out B8.out) (fun x cs h => str_KM h) (fun _ h => h.elim) (fun _ _ => trivial) B8.out B8.out.size (by have h1 := HN1.out; have h2 := HNN.out; have h3 := HXL.out; simp; omega) ?_
            intro v4 w9 hR hB hg hat
            have B9 := Aside0.mk hB
            have R9 := Aside0.mk hR
            clear hR hB hg hat B8 R8
            refine hK.out _ _ B9.out (fun _ => ?_)
            clear hK K
            refine norm_ (a' := ?_) ?_ ?_
            rotate_left
            · show Act.put _ (some 63) _ = _
              simp only [Act.put, List.setIfInBounds_toArray, List.set_cons_zero, List.set_cons_succ, i64_w, i32_w]
              rfl
            refine pure_ (i := 19) (N := some 3) (v := ?_) (a' := ?_) #[true, true, true, true, true, true, true, true, true, true, true, true, true, true, true, true, true, true, true, true] rfl rfl (any_of HT_.out (by kernel_rfl)) (fun _ _ _ h => h) (Or.inl ⟨by rfl, ?_⟩) ?_ ?_
            rotate_left
            · intro w'
              go_simp
              with_reducible rfl
            rotate_left
            · simp only [Act.put, List.setIfInBounds_toArray, List.set_cons_zero, List.set_cons_succ, i64_w, i32_w]
              rfl
            refine done_ (done_of HT_.out (by kernel_rfl)) ?_
            rw [HI.out, ← HN2.out] at R9
            go_wp2_with fail
            go_roundw
            case rel => exact ⟨i + 1, by omega, by go_num, ⟨Kd.R_lower R9.out HB.out.size⟩, ⟨HB.out.trans (B9.out.mono HB.out.size)⟩⟩
            case measure => simp [intOf]; omega
    · have d1 : decide ((i : Int) < (T.length : Int)) = false := decide_eq_false (by omega)
      have hii : i = T.length := by omega
      subst hii
      rw [List.take_length] at HR ⊢
      go_wp2_with fail
      go_ret
      exact ⟨_, _, rfl, HR.out, HB.out⟩
end Go.Proofs.Ytcpjfpbfopkngaa.Thw
/-! ## Layer 10: the document's keys and Put in plain words; they are the directory's. -/
namespace Go.Proofs.Ytcpjfpbfopkngaa.Thw
open Go Go.RowKit
set_option linter.unusedVariables false
set_option linter.unusedSimpArgs false
theorem ltB_iff (k x : ByteArray) : ltB k x = true ↔ x.data.toList < k.data.toList := by
  unfold ltB
  rw [bytesLess_eq, Lib.toList_data, Lib.toList_data]
  exact decide_eq_true_iff
theorem insK_perm (k : ByteArray) (X : List ByteArray) : (insK k X).Perm (k :: X) := by
  unfold insK
  rw [List.append_assoc]
  refine List.perm_middle.trans ?_
  show (k :: (X.takeWhile (ltB k) ++ X.dropWhile (ltB k))).Perm _
  rw [List.takeWhile_append_dropWhile]
theorem keyFold_perm : ∀ (T : List Slt) (X : List ByteArray), (T.foldl keyStep X).Perm ((liv T).map (·.1) ++ X)
  | [], X => List.Perm.refl _
  | s :: T, X => by
    rw [List.foldl_cons, liv_cons]
    refine (keyFold_perm T (keyStep X s)).trans ?_
    unfold keyStep
    cases hb : s.2.2 with
    | false =>
      rw [if_neg (by simp), lv1_off hb]
      exact List.Perm.refl _
    | true =>
      rw [if_pos rfl, lv1_on hb]
      refine ((insK_perm s.1 X).append_left _).trans ?_
      exact List.perm_middle
theorem keysR_perm (T : List Slt) : (keysR T).Perm ((liv T).map (·.1)) := by
  have := keyFold_perm T []
  rwa [List.append_nil] at this
abbrev UpK (x y : ByteArray) : Prop := ¬ y.data.toList < x.data.toList
theorem insK_up (k : ByteArray) : ∀ (X : List ByteArray), X.Pairwise UpK → (insK k X).Pairwise UpK
  | [], _ => by
    unfold insK
    simp
  | y :: X, h => by
    have h2 := List.pairwise_cons.1 h
    cases hb : ltB k y with
    | true =>
      have e : insK k (y :: X) = y :: insK k X := by
        unfold insK
        rw [List.takeWhile_cons, if_pos hb, List.dropWhile_cons, if_pos hb, List.cons_append, List.cons_append]
      rw [e, List.pairwise_cons]
      refine ⟨fun z hz => ?_, insK_up k X h2.2⟩
      rcases List.mem_cons.1 ((insK_perm k X).mem_iff.1 hz) with rfl | hz
      · intro hlt
        exact List.lt_irrefl _ (List.lt_trans hlt ((ltB_iff _ _).1 hb))
      · exact h2.1 z hz
    | false =>
      have e : insK k (y :: X) = k :: y :: X := by
        unfold insK
        rw [List.takeWhile_cons, if_neg (by rw [hb]; decide), List.dropWhile_cons, if_neg (by rw [hb]; decide)]
        rfl
      have hk : ¬ y.data.toList < k.data.toList := fun hl => by rw [(ltB_iff _ _).2 hl] at hb; cases hb
      rw [e, List.pairwise_cons]
      refine ⟨fun z hz => ?_, h⟩
      rcases List.mem_cons.1 hz with rfl | hz
      · exact hk
      · exact List.not_lt.2 (List.le_trans (List.not_lt.1 hk) (List.not_lt.1 (h2.1 z hz)))
theorem keysR_up (T : List Slt) : (keysR T).Pairwise UpK := by
  have go : ∀ (T : List Slt) (X : List ByteArray), X.Pairwise UpK → (T.foldl keyStep X).Pairwise UpK := by
    intro T
    induction T with
    | nil => intro X h; exact h
    | cons s T ih =>
      intro X h
      rw [List.foldl_cons]
      refine ih _ ?_
      unfold keyStep
      split
      · exact insK_up _ _ h
      · exact h
  exact go T [] List.Pairwise.nil
def slotOf (T : List Slt) (k : ByteArray) : Slt := (T[fnd (occ T) T.length (hmK T.length k) k]?).getD zS
/-- The slots that have keys, by these. -/
def risL (T : List Slt) : List Slt := (keysR T).map (slotOf T)
/-- What a Put comes to. -/
def putF (T : List Slt) (s : Slt) : List Slt :=
  if occ T (fnd (occ T) T.length (hmK T.length s.1) s.1) = some s.1 then lay T s else if 2 * (cnt T + 1) ≤ T.length then lay T s else lay (layAll (2 * T.length) (risL T)) s
section
variable {T : List Slt} {m b : Nat}
theorem slotOf_liv (h : Inv T m b) {s : Slt} (hs : s ∈ liv T) : slotOf T s.1 = s := by
  obtain ⟨h1, h2⟩ := liv_mem.1 hs
  obtain ⟨i, hi, rfl⟩ := List.getElem_of_mem h1
  have h3 : occ T i = some T[i].1 := by rw [occ_at hi, if_pos h2]
  unfold slotOf
  rw [h.good i hi _ h3, List.getElem?_eq_getElem hi]
  rfl
theorem keysR_mem {k : ByteArray} : k ∈ keysR T ↔ ∃ s ∈ liv T, s.1 = k := by
  rw [(keysR_perm T).mem_iff, List.mem_map]
theorem slotOf_key (h : Inv T m b) {k : ByteArray} (hk : k ∈ keysR T) : (slotOf T k).1 = k ∧ (slotOf T k).2.2 = true ∧ slotOf T k ∈ T := by
  obtain ⟨s, hs, rfl⟩ := keysR_mem.1 hk
  rw [slotOf_liv h hs]
  exact ⟨rfl, (liv_mem.1 hs).2, (liv_mem.1 hs).1⟩
theorem risL_keys (h : Inv T m b) : (risL T).map (·.1) = keysR T := by
  unfold risL
  rw [List.map_map]
  conv => rhs; rw [← List.map_id (keysR T)]
  exact List.map_congr_left fun k hk => (slotOf_key h hk).1
theorem ris_risL (h : Inv T m b) : Ris T (risL T) := by
  constructor
  · show (risL T).Perm (liv T)
    unfold risL
    refine ((keysR_perm T).map _).trans ?_
    rw [List.map_map]
    have e : (liv T).map (slotOf T ∘ fun x => x.1) = liv T := by
      conv => rhs; rw [← List.map_id (liv T)]
      exact List.map_congr_left fun s hs => slotOf_liv h hs
    rw [e]
  · unfold risL
    rw [List.pairwise_map]
    refine (keysR_up T).imp_of_mem fun {x y} hx hy hr => ?_
    rw [(slotOf_key h hx).1, (slotOf_key h hy).1]
    exact hr
theorem key_anti {x y : ByteArray} (h1 : UpK x y) (h2 : UpK y x) : x = y := by
  have h3 := List.not_lt.1 h1
  rcases List.le_iff_lt_or_eq.1 h3 with h4 | h4
  · exact absurd h4 h2
  · exact WideShapes.bytes_inj (by rw [h4])
theorem nodup_key : ∀ {L : List Slt}, (L.map (·.1)).Nodup → ∀ {x y : Slt}, x ∈ L → y ∈ L → x.1 = y.1 → x = y
  | [], _, x, _, hx, _, _ => by cases hx
  | s :: L, hn, x, y, hx, hy, e => by
    rw [List.map_cons, List.nodup_cons] at hn
    rcases List.mem_cons.1 hx with rfl | hx'
    · rcases List.mem_cons.1 hy with rfl | hy'
      · rfl
      · exact absurd (show x.1 ∈ L.map (·.1) from List.mem_map.2 ⟨y, hy', e.symm⟩) hn.1
    · rcases List.mem_cons.1 hy with rfl | hy'
      · exact absurd (show y.1 ∈ L.map (·.1) from List.mem_map.2 ⟨x, hx', e⟩) hn.1
      · exact nodup_key hn.2 hx' hy' e
theorem ris_unique (h : Inv T m b) {L L' : List Slt} (h1 : Ris T L) (h2 : Ris T L') : L = L' := by
  have hp : L.Perm L' := h1.1.trans h2.1.symm
  have hn := ris_nodup h2 rfl h.good
  exact List.Perm.eq_of_pairwise (le := fun x y : Slt => ¬ y.1.data.toList < x.1.data.toList) (fun a b ha hb x y => nodup_key hn (hp.mem_iff.1 ha) hb (key_anti x y)) h1.2 h2.2 hp
theorem keysR_length (h : Inv T m b) : (keysR T).length = m := by
  rw [(keysR_perm T).length_eq, List.length_map, ← cnt_liv, h.many]
theorem putTo_fn (h : Inv T m b) {T' : List Slt} {m' : Nat} {s : Slt} (hp : PutTo T m s T' m') : T' = putF T s := by
  unfold putF
  rcases hp with ⟨h1, h2, _⟩ | ⟨h1, _, ⟨h2, h3⟩ | ⟨h2, L, h3, h4⟩⟩
  · rw [if_pos h1, h2]
  · rw [if_neg (by rw [h1]; simp), if_pos (by rw [h.many]; exact h2), h3]
  · rw [if_neg (by rw [h1]; simp), if_neg (by rw [h.many]; omega), h4, ris_unique h h3 (ris_risL h)]
/-- Laying the slots one by one: what a step needs. -/
theorem layAll_part (h : Inv T m b) {L : List Slt} (hr : Ris T L) (a : Nat) (ha : a ≤ L.length) :
    (liv (layAll (2 * T.length) (L.take a))).Perm (L.take a) := by
  have hz : occ (List.replicate (2 * T.length) zS) = fun _ => none := by
    funext i
    unfold occ
    rcases Nat.lt_or_ge i (2 * T.length) with h | h
    · rw [List.getElem?_replicate_of_lt h]; rfl
    · rw [List.getElem?_eq_none (by simpa using h)]
  have hl0 : liv (List.replicate (2 * T.length) zS) = [] := by
    rw [← List.length_eq_zero_iff, ← cnt_liv, cnt_zero]
  have hlen : L.length = m := by rw [hr.1.length_eq, ← h.many]; rfl
  have hnd := ris_nodup hr rfl h.good
  have h1 := lays (L.take a) (List.replicate (2 * T.length) zS) (List.length_replicate ..) (by rw [hz]; exact Good.nothing) (by rw [cnt_zero, List.length_take]; have := h.half; have := h.pos; omega) (fun s hs => (ris_mem hr (List.mem_of_mem_take hs)).2)
    (by rw [hl0, List.append_nil]; exact hnd.sublist ((List.take_sublist a L).map _)) (fun x hx _ => List.eq_of_mem_replicate hx)
  rw [hl0, List.append_nil] at h1
  exact h1.2.1
theorem layAll_absent (h : Inv T m b) {L : List Slt} (hr : Ris T L) (a : Nat) (ha : a < L.length) (i : Nat) : occ (layAll (2 * T.length) (L.take a)) i ≠ some L[a].1 := by
  refine absent_of_liv fun hm => ?_
  obtain ⟨s, hs, he⟩ := List.mem_map.1 hm
  have hs2 := (layAll_part h hr a (by omega)).mem_iff.1 hs
  have hnd := ris_nodup hr rfl h.good
  have e : L = L.take a ++ (L[a] :: L.drop (a + 1)) := by rw [← List.drop_eq_getElem_cons ha, List.take_append_drop]
  have hnd2 : ((L.take a).map (·.1) ++ (L[a] :: L.drop (a + 1)).map (·.1)).Nodup := by rw [← List.map_append, ← e]; exact hnd
  exact (List.nodup_append.1 hnd2).2.2 _ (List.mem_map.2 ⟨s, hs2, rfl⟩) _ (List.mem_map.2 ⟨L[a], List.mem_cons_self, rfl⟩) he
end
end Go.Proofs.Ytcpjfpbfopkngaa.Thw
/-! ## Layer 10: the document's Put (printed by gen10z.py). -/
namespace Go.Proofs.Ytcpjfpbfopkngaa.Thw
open Go Go.RowKit Go.Proofs.YtcpjfpbfopkngaaW.PrintWords Go.Proofs.YtcpjfpbfopkngaaW.PrintLast Go.Proofs.YtcpjfpbfopkngaaW.PrintMore
set_option linter.unusedVariables false
set_option linter.unusedSimpArgs false
theorem set_same {cs : Array Value} {i : Nat} {v : Value} (h : cs[i]? = some v) : cs.setIfInBounds i v = cs := by
  apply Array.ext_getElem?
  intro j
  rw [Array.getElem?_setIfInBounds]
  split
  · rename_i e
    subst e
    split
    · exact h.symm
    · rename_i hn
      rw [Array.getElem?_eq_none (by omega)] at h
      cases h
  · rfl
/-- What is told of a key is written. -/
theorem ref_setL {w : World} {A : Nat → Prop} {p g c : Nat} {T : List Slt} (h1 : A p) (h2 : ∀ k, A k → k < w.heap.size) (h3 : w.heap[p]? = some (.cells #[.slice (some ⟨g, 0, none⟩) T.length c] 43))
    (h4 : kS.R 59 w 0 (fun k => A k ∧ k ≠ p) (.slice (some ⟨g, 0, none⟩) T.length c) T) (i : Nat) (hi : i < T.length) (key : ByteArray) (hk : T[i].1 = key) (ho : T[i].2.2 = true) (l0 l1 l2 l3 : Int) :
    RefAt ((((w.setCell ⟨g, i * 6 + 1, none⟩ (.int .i64 l0)).setCell ⟨g, i * 6 + 2, none⟩ (.int .i64 l1)).setCell ⟨g, i * 6 + 3, none⟩ (.int .i64 l2)).setCell ⟨g, i * 6 + 4, none⟩ (.int .u64 l3)) A p (T.set i (key, (l0, l1, l2, l3), true)) ∧
    Frm A w ((((w.setCell ⟨g, i * 6 + 1, none⟩ (.int .i64 l0)).setCell ⟨g, i * 6 + 2, none⟩ (.int .i64 l1)).setCell ⟨g, i * 6 + 3, none⟩ (.int .i64 l2)).setCell ⟨g, i * 6 + 4, none⟩ (.int .u64 l3)) := by
  obtain ⟨hd, hf⟩ := ref_set h1 h2 h3 h4 i hi (key, (l0, l1, l2, l3), true)
  obtain ⟨t0, _, _, _, _, t5⟩ := ref_slot h4 i hi
  rw [hk] at t0
  rw [ho] at t5
  obtain ⟨inner, hown⟩ := Kd.R_own h4
  obtain ⟨cs, hc⟩ := own_typed hown g rfl
  have hg := h4.1 g rfl
  have c0 : cs[i * 6]? = some (.string key) := by simpa [World.cell?, hc] using t0
  have c5 : cs[i * 6 + 5]? = some (.bool true) := by simpa [World.cell?, hc] using t5
  have heq : ∀ k : Nat, ((((w.setCell ⟨g, i * 6 + 1, none⟩ (.int .i64 l0)).setCell ⟨g, i * 6 + 2, none⟩ (.int .i64 l1)).setCell ⟨g, i * 6 + 3, none⟩ (.int .i64 l2)).setCell ⟨g, i * 6 + 4, none⟩ (.int .u64 l3)).heap[k]? = (w.setCells g (i * 6) (encS (key, (l0, l1, l2, l3), true))).heap[k]? := by
    intro k
    show _ = ((((((w.setCell ⟨g, i * 6, none⟩ (.string key)).setCell ⟨g, i * 6 + 1, none⟩ (.int .i64 l0)).setCell ⟨g, i * 6 + 2, none⟩ (.int .i64 l1)).setCell ⟨g, i * 6 + 3, none⟩ (.int .i64 l2)).setCell ⟨g, i * 6 + 4, none⟩ (.int .u64 l3)).setCell ⟨g, i * 6 + 5, none⟩ (.bool true)).heap[k]?
    by_cases hkg : k = g
    · subst hkg
      rw [blk_set (blk_set (blk_set (blk_set hc (i * 6 + 1) (.int .i64 l0)) (i * 6 + 2) (.int .i64 l1)) (i * 6 + 3) (.int .i64 l2)) (i * 6 + 4) (.int .u64 l3),
        blk_set (blk_set (blk_set (blk_set (blk_set (blk_set hc (i * 6) (.string key)) (i * 6 + 1) (.int .i64 l0)) (i * 6 + 2) (.int .i64 l1)) (i * 6 + 3) (.int .i64 l2)) (i * 6 + 4) (.int .u64 l3)) (i * 6 + 5) (.bool true)]
      rw [set_same c0, set_same (v := .bool true)]
      rw [Array.getElem?_setIfInBounds_ne (by omega), Array.getElem?_setIfInBounds_ne (by omega), Array.getElem?_setIfInBounds_ne (by omega), Array.getElem?_setIfInBounds_ne (by omega)]
      exact c5
    · have st : ∀ (W : World) (o : Nat) (v : Value), (W.setCell ⟨g, o, none⟩ v).heap[k]? = W.heap[k]? := fun W o v => Below.heap_setCell W ⟨g, o, none⟩ v k hkg
      rw [st, st, st, st, st, st, st, st, st, st]
  have hsz : ((((w.setCell ⟨g, i * 6 + 1, none⟩ (.int .i64 l0)).setCell ⟨g, i * 6 + 2, none⟩ (.int .i64 l1)).setCell ⟨g, i * 6 + 3, none⟩ (.int .i64 l2)).setCell ⟨g, i * 6 + 4, none⟩ (.int .u64 l3)).heap.size = w.heap.size := by simp [World.setCell]
  have hF : Frm A w ((((w.setCell ⟨g, i * 6 + 1, none⟩ (.int .i64 l0)).setCell ⟨g, i * 6 + 2, none⟩ (.int .i64 l1)).setCell ⟨g, i * 6 + 3, none⟩ (.int .i64 l2)).setCell ⟨g, i * 6 + 4, none⟩ (.int .u64 l3)) :=
    ((((Frm.refl A w).setCell (p := ⟨g, i * 6 + 1, none⟩) (Or.inl hg.1) _).setCell (p := ⟨g, i * 6 + 2, none⟩) (Or.inl hg.1) _).setCell (p := ⟨g, i * 6 + 3, none⟩) (Or.inl hg.1) _).setCell (p := ⟨g, i * 6 + 4, none⟩) (Or.inl hg.1) _
  obtain ⟨d1, d2, v, d3, d4⟩ := hd
  refine ⟨⟨d1, fun k hk => by rw [hsz]; exact h2 k hk, v, by rw [heq]; exact d3, ?_⟩, hF⟩
  exact Kd.R_step d4 (fun k hk hlt => heq k)
theorem key_step {T : List Slt} {m b : Nat} (h : Inv T m b) {ka : ByteArray} (hk : ka ∈ keysR T) : ∃ i, ∃ hi : i < T.length, atI T ka = (i : Nat) ∧ T[i] = slotOf T ka ∧ T[i].1 = ka ∧ T[i].2.2 = true := by
  rcases inv_at h ka with ⟨_, h2, _⟩ | ⟨hlt, h1, _, h3, h4, _⟩
  · exfalso
    obtain ⟨s, hs, rfl⟩ := keysR_mem.1 hk
    obtain ⟨h5, h6⟩ := liv_mem.1 hs
    obtain ⟨i, hi, rfl⟩ := List.getElem_of_mem h5
    rw [lk_some_of rfl h.good hi h6] at h2
    cases h2
  · refine ⟨_, hlt, h1, ?_, h4, h3⟩
    unfold slotOf
    rw [List.getElem?_eq_getElem hlt]
    rfl
theorem ref_remade {w : World} {A : Nat → Prop} {p : Nat} {U : List Slt} {B : Nat} {v v0 : Value} (h1 : A p) (h2 : ∀ k, A k → k < w.heap.size) (h3 : w.heap[p]? = some (.cells #[v0] 43)) (hR : Kd.R kS 59 w B (fun _ => True) v U) (hB : p < B) :
    RefAt (w.setCell ⟨p, 0, none⟩ v) (fun k => k = p ∨ (B ≤ k ∧ k < w.heap.size)) p U ∧ Frm A w (w.setCell ⟨p, 0, none⟩ v) := by
  refine ⟨⟨Or.inl rfl, fun k hk => ?_, v, by simpa using blk_set h3 0 v, ?_⟩, (Frm.refl _ _).setCell (Or.inl h1) _⟩
  · rcases hk with hk | hk
    · have := h2 p h1; rw [hk]; simpa [World.setCell] using this
    · simpa [World.setCell] using hk.2
  · have h5 := Kd.R_lower (Kd.R_mono (Kd.R_bound hR) (ok' := fun k => B ≤ k ∧ k < w.heap.size) (fun k hk => ⟨hk.2.1, hk.2.2.1⟩)) (Nat.zero_le _)
    have h6 := Kd.R_far h5 (p := ⟨p, 0, none⟩) (fun k hk => by show k ≠ p; omega) v
    exact Kd.R_mono h6 (fun k hk => ⟨Or.inr hk, by omega⟩)
theorem below_two {w w5 w6 : World} (h : Below w.heap.size w w5) (k : Below w5.heap.size w5 w6) : Below w.heap.size w w6 := h.trans (k.mono h.size)
def RPutPost (w : World) (A : Nat → Prop) (p : Nat) (T' : List Slt) (e : Ending) (w' : World) : Prop :=
  e = .returned (.tuple #[]) ∧ ∃ A' : Nat → Prop, RefAt w' A' p T' ∧ Frm A w w' ∧ ∀ k, A' k → A k ∨ w.heap.size ≤ k
def rput3T : Bool × List (List Nat × List Nat) := (true, [([], []), ([0], [0]), ([1], [1]), ([2], [2]), ([], []), ([], []), ([3, 4, 0, 1, 2, 3, 4, 5], [3, 4]), ([6, 0, 1, 2, 3, 4, 5], [6]), ([7, 5, 0, 1, 2, 3, 4, 5], [5, 7])])
def rput3B : List Nat := [0, 1, 3, 7, 0, 0, 63, 127, 255]
theorem rput3tab : rtab .any (opsOf Try.f11 3) = rput3T := by kernel_rfl
theorem rput3bits : waitsOk rput3T.2 rput3B = true := by kernel_rfl
def rput11T : Bool × List (List Nat × List Nat) := (true, [([], []), ([], []), ([1], [1]), ([2], [2]), ([3], [3]), ([], []), ([], []), ([], []), ([6, 7], [6, 7]), ([8], [8]), ([5, 9], [5, 9]), ([4, 10], [4, 10]), ([11], [11]), ([0, 12, 10], [0, 12])])
def rput11B : List Nat := [0, 0, 2, 6, 14, 0, 0, 0, 192, 448, 992, 2046, 4094, 8191]
theorem rput11tab : rtab .any (opsOf Try.f11 11) = rput11T := by kernel_rfl
theorem rput11bits : waitsOk rput11T.2 rput11B = true := by kernel_rfl
set_option maxHeartbeats 12800000 in
set_option maxRecDepth 100000 in
theorem ref_Put.calls (w : World) (A : Nat → Prop) (p : Nat) (T : List Slt) (m b : Nat) (h : RefAt w A p T) (hi : Inv T m b) (hb : b ≤ 250) (k : ByteArray) (hk : k.size ≤ 100) (l0 l1 l2 l3 : Int) :
    Calls Try.prog 11 #[.pointer (some ⟨p, 0, none⟩), .string k, .agg #[.int .i64 l0, .int .i64 l1, .int .i64 l2, .int .u64 l3]] w (RPutPost w A p (putF T (k, (l0, l1, l2, l3), true))) := by
  have hsm := hi.small hb
  have hp0 := hi.pos
  have hcase := inv_at hi k
  obtain ⟨j, _, hj, hT⟩ := hi.exp hb
  obtain ⟨w2, hw2⟩ : ∃ w2, w.alloc (.cells #[.int .i64 l0, .int .i64 l1, .int .i64 l2, .int .u64 l3] 31) = w2 := ⟨_, rfl⟩
  have B2 := Aside0.mk (show Below w.heap.size w w2 by rw [← hw2]; exact below_alloc (Below.refl _ _) _)
  have RB := Aside0.mk (show w2.heap[w.heap.size]? = some (.cells #[.int .i64 l0, .int .i64 l1, .int .i64 l2, .int .u64 l3] 31) by rw [← hw2]; exact blk_new _ _)
  have HALW := Aside0.mk h.2.1
  have HPA := Aside0.mk h.1
  have HNA := Aside0.mk (fun ha : A w.heap.size => Nat.lt_irrefl _ (h.2.1 _ ha))
  have D2 := Aside0.mk (h.below B2.out)
  have F2 := Aside0.mk (Frm.of_new (S := A) B2.out)
  have HI := Aside0.mk hi
  have HT := Aside0.mk hT
  have HK := Aside0.mk (size_big hk)
  have HAT := Aside0.mk (ref_at.calls w2 A p T D2.out (by omega) k)
  have HW2 := Aside0.mk hw2
  clear h hT hi hw2 hk
  go_enter Try.func11, Try.ntmps11
  go_wp2_with fail
  rw [HW2.out]
  clear HW2
  refine HAT.out.mono ?_
  rintro e w3 ⟨rfl, rfl⟩
  clear HAT
  rcases hcase with ⟨h1, h2, h3⟩ | ⟨hlt, h1, h2, h3, h5, h6⟩
  · rw [h1]
    have d1 : decide ((-1 : Int) ≥ 0) = false := by decide
    have HP2 := Aside0.mk (show putF T (k, (l0, l1, l2, l3), true) = if 2 * (m + 1) ≤ T.length then lay T (k, (l0, l1, l2, l3), true) else lay (layAll (2 * T.length) (risL T)) (k, (l0, l1, l2, l3), true) by
      unfold putF
      rw [if_neg (by rw [h3]; simp), HI.out.many])
    have HAB := Aside0.mk h3
    clear h1 h2 h3
    go_wp2_with fail
    refine (ref_Keys.calls w2 A p T D2.out hsm hp0).mono ?_
    rintro e w4 ⟨A1, c1, rfl, hR, hb4⟩
    have HR := Aside0.mk hR
    have D4 := Aside0.mk (D2.out.below hb4)
    have F4 := Aside0.mk (F2.out.andThen (Frm.of_new (S := A) hb4) (fun i hi => Or.inl hi))
    have RB4 := Aside0.mk (blk_below RB.out hb4)
    have HS4 := Aside0.mk hb4.size
    have HS2 := Aside0.mk (show w.heap.size < w2.heap.size from blk_lt RB.out)
    clear hR hb4 D2 F2 RB B2
    have hkl := keysR_length HI.out
    have HKL := Aside0.mk hkl
    have hmm := HI.out.le
    have hhf := HI.out.half
    obtain ⟨g, c, h3, h4⟩ := D4.out.form hp0
    have H3 := Aside0.mk h3
    have H4 := Aside0.mk h4
    obtain ⟨d0, dr⟩ := cells1d h3
    obtain ⟨b0, b1, b2, b3, br⟩ := cells4e RB4.out
    clear h3 h4
    have HWW := Aside0.mk (show wrap64 (2 * wrap64 (((keysR T).length : Int) + 1)) = ((2 * (m + 1) : Nat) : Int) by
      rw [hkl, wrap64_in (n := (m : Int) + 1) (by omega) (by omega), wrap64_in (by omega) (by omega)]
      omega)
    clear hkl
    by_cases hfit : 2 * (m + 1) ≤ T.length
    · have d2 : decide ((T.length : Int) < wrap64 (2 * wrap64 (((keysR T).length : Int) + 1))) = false := decide_eq_false (by rw [HWW.out]; omega)
      have HP3 := Aside0.mk (HP2.out.trans (if_pos hfit))
      go_wp2_with fail
      refine (ref_lay.calls w4 A p T D4.out j (by omega) HT.out HI.out.gap k l0 l1 l2 l3 true HK.out (fun i hi => HI.out.good.absent (by rw [HAB.out]; exact fun e => by cases e) i hi)).mono ?_
      rintro e w5 ⟨rfl, h5, f5⟩
      rw [← HP3.out] at h5
      have D5 := Aside0.mk h5
      have F5 := Aside0.mk (F4.out.andThen f5 (fun i hi => Or.inl hi))
      clear h5 f5
      go_wp2_with fail
      go_end0
      exact ⟨rfl, A, D5.out, F5.out, fun k hk => Or.inl hk⟩
    · have d2 : decide ((T.length : Int) < wrap64 (2 * wrap64 (((keysR T).length : Int) + 1))) = true := decide_eq_true (by rw [HWW.out]; omega)
      have HP3 := Aside0.mk (HP2.out.trans (if_neg hfit))
      have HDW := Aside0.mk (show wrap64 (2 * (T.length : Int)) = ((2 * T.length : Nat) : Int) by rw [wrap64_in (by omega) (by omega)]; omega)
      have H35 := Aside0.mk (blk_alloc H3.out (.cells #[.slice (some ⟨g, 0, none⟩) T.length c] 43))
      have XQ5 := Aside0.mk (blk_new w4 (.cells #[.slice (some ⟨g, 0, none⟩) T.length c] 43))
      have H45 := Aside0.mk (Kd.R_alloc H4.out (.cells #[.slice (some ⟨g, 0, none⟩) T.length c] 43))
      have R5K := HR
      have R5 := Aside0.mk (Kd.R_alloc HR.out (.cells #[.slice (some ⟨g, 0, none⟩) T.length c] 43))
      have B5 := Aside0.mk (below_alloc (Below.refl w4.heap.size w4) (.cells #[.slice (some ⟨g, 0, none⟩) T.length c] 43))
      have HS5 := Aside0.mk (show (w4.alloc (.cells #[.slice (some ⟨g, 0, none⟩) T.length c] 43)).heap.size = w4.heap.size + 1 by simp)
      go_upto_region 7 with (fail)
      generalize w4.alloc (.cells #[.slice (some ⟨g, 0, none⟩) T.length c] 43) = w5 at H35 XQ5 H45 R5 B5 HS5 ⊢
      clear d0 dr b0 b1 b2 b3 br
      obtain ⟨d0, dr⟩ := cells1d H35.out
      go_wp2_with ((with_reducible refine gate_dst (N := 48) rfl ?_); refine Kd.R_make kS (w0 := w5) w5.heap.size 59 rfl (N := 48) rfl 41 _ _ rfl (2 * (T.length : Int)) rfl rfl Try.underlying41 (.agg #[.string ⟨#[]⟩, .int .i64 0, .int .i64 0, .int .i64 0, .int .u64 0, .bool false]) 56 infoR rfl (by decide) (by decide) zS (ok := fun _ => True) (okp := fun _ => False) ?aM (fun _ x => x.elim) trivial ?a0 ?aL (Below.refl _ _) (Nat.le_refl _) ?_; (case aM => exact kS_M _ _ _ zS); (case a0 => omega); (case aL => omega); intro v1 w6 hR3 hB3 hg3 hv3; clear hg3 hv3; rw [show (2 * (T.length : Int)).toNat = 2 * T.length by omega] at hR3; obtain ⟨A3, c3, rfl⟩ := Kd.R_slice hR3; obtain ⟨n8, hn8⟩ : ∃ n_ : Nat, (List.replicate (2 * T.length) zS).length = n_ := ⟨_, rfl⟩; rw [hn8] at hR3 ⊢; have HN8 := Aside0.mk hn8; have HR3 := Aside0.mk hR3; have HB3 := Aside0.mk hB3; clear hR3 hB3 hn8 d0 dr; obtain ⟨d0, dr⟩ := cells1d (blk_below H35.out HB3.out))
      have hpl : p < w4.heap.size := D4.out.2.1 p D4.out.1
      have HAL := Aside0.mk (fun x (hx : A x) => D4.out.2.1 x hx)
      have HD7 := Aside0.mk (ref_remade (A := A) (p := p) (B := w5.heap.size) HPA.out (fun x hx => by have h1 := HAL.out x hx; have h2 := HS5.out; have h3 := HB3.out.size; omega) (blk_below H35.out HB3.out) HR3.out (by have h2 := HS5.out; omega))
      obtain ⟨q, hq⟩ : ∃ q, w4.heap.size = q := ⟨_, rfl⟩
      rw [hq] at XQ5 HS5 HAL hpl B5 ⊢
      have HQA := Aside0.mk (fun hx : A q => Nat.lt_irrefl _ (HAL.out q hx))
      have HOLD := Aside0.mk (show RefAt w5 (fun x => x = q ∨ (A x ∧ x ≠ p)) q T from ⟨Or.inl rfl, fun x hx => by
        have h2 := HS5.out
        rcases hx with hx | hx
        · omega
        · have := HAL.out x hx.1; omega, _, XQ5.out, Kd.R_mono H45.out (fun x hx => ⟨Or.inr hx, fun e => by have := HAL.out x hx.1; omega⟩)⟩)
      have HOLD7 := Aside0.mk ((HOLD.out.below HB3.out).frm ((Frm.refl (fun x => x = p) w6).setCell (p := ⟨p, 0, none⟩) (Or.inl rfl) (.slice A3 n8 c3)) (fun x hx e => by
        rcases hx with hx | hx
        · omega
        · exact hx.2 e))
      have F7 := Aside0.mk (((F4.out.andThen (Frm.of_new (S := A) (hq ▸ B5.out)) (fun i hi => Or.inl hi)).andThen (Frm.of_new (S := A) HB3.out) (fun i hi => Or.inl hi)).andThen HD7.out.2 (fun i hi => Or.inl hi))
      have HPW := Aside0.mk (show p < w.heap.size from HALW.out p HPA.out)
      have HQW := Aside0.mk (show w2.heap.size ≤ q by rw [← hq]; exact HS4.out)
      have RBX := Aside0.mk (show (w6.setCell ⟨p, 0, none⟩ (.slice A3 n8 c3)).heap[w.heap.size]? = some (.cells #[.int .i64 l0, .int .i64 l1, .int .i64 l2, .int .u64 l3] 31) from HD7.out.2.keeps (blk_below (blk_below RB4.out (hq ▸ B5.out)) HB3.out) HNA.out)
      have RK7 := Aside0.mk (Kd.R_far (Kd.R_below (Kd.R_lower (Kd.R_mono (Kd.R_bound R5K.out) (ok' := fun x => w2.heap.size ≤ x ∧ x < q) (fun x hx => ⟨hx.2.1, by rw [← hq]; exact hx.2.2.1⟩)) (Nat.zero_le _)) (below_two (hq ▸ B5.out) HB3.out)) (p := ⟨p, 0, none⟩) (fun x hx => by have h1 := HPW.out; have h2 := HS2.out; show x ≠ p; omega) (.slice A3 n8 c3))
      obtain ⟨A', hA'⟩ : ∃ A' : Nat → Prop, A' = (fun x => x = p ∨ (w5.heap.size ≤ x ∧ x < w6.heap.size)) := ⟨_, rfl⟩
      obtain ⟨Ao, hAo⟩ : ∃ A' : Nat → Prop, A' = (fun x => x = q ∨ (A x ∧ x ≠ p)) := ⟨_, rfl⟩
      rw [← hA'] at HD7
      rw [← hAo] at HOLD7
      have HAA := Aside0.mk (show ∀ x, A' x → A x ∨ w.heap.size ≤ x by
        intro x hx
        rw [hA'] at hx
        rcases hx with hx | hx
        · rw [hx]; exact Or.inl HPA.out
        · have h1 := HS5.out; have h2 := HQW.out; have h3 := HS2.out; exact Or.inr (by omega))
      have HAO := Aside0.mk (show ∀ x, Ao x → ¬ A' x by
        intro x hx hy
        have h1 := HS5.out
        rw [hA'] at hy
        rw [hAo] at hx
        rcases hx with hx | hx
        · rcases hy with hy | hy
          · omega
          · omega
        · rcases hy with hy | hy
          · exact hx.2 hy
          · have := HAL.out x hx.1; omega)
      have HAK := Aside0.mk (show ∀ x, (w2.heap.size ≤ x ∧ x < q) → ¬ A' x by
        intro x hx hy
        have h1 := HS5.out
        have h2 := HPW.out
        have h3 := HS2.out
        rw [hA'] at hy
        rcases hy with hy | hy <;> omega)
      have HAB2 := Aside0.mk (show ¬ A' w.heap.size by
        intro hy
        have h1 := HS5.out
        have h2 := HPW.out
        have h3 := HS2.out
        have h4 := HQW.out
        rw [hA'] at hy
        rcases hy with hy | hy <;> omega)
      have D7 := Aside0.mk (show RefAt (w6.setCell ⟨p, 0, none⟩ (.slice A3 n8 c3)) A' p (layAll (2 * T.length) ((risL T).take 0)) from HD7.out.1)
      clear HD7 HR3 HB3 H35 XQ5 H45 R5 B5 HOLD HR F4 RB4 D4 H3 H4 d0 dr hA' hAo HAL HDW HWW hpl
      have HLL := Aside0.mk (show (risL T).length = (keysR T).length by unfold risL; rw [List.length_map])
      have HML := Aside0.mk (show (keysR T).length ≤ T.length by rw [HKL.out]; omega)
      obtain ⟨X, hX⟩ : ∃ X, keysR T = X := ⟨_, rfl⟩
      have HXE := Aside0.mk hX
      rw [hX] at RK7 HLL HML HKL ⊢
      clear hX
      generalize w6.setCell ⟨p, 0, none⟩ (.slice A3 n8 c3) = w7 at D7 HOLD7 F7 RBX RK7 ⊢
      go_loopw [9] (fun v9 wr => ∃ a : Nat, a ≤ X.length ∧ v9 = .int .i64 a ∧ Aside0 (RefAt wr A' p (layAll (2 * T.length) ((risL T).take a))) ∧ Aside0 (RefAt wr Ao q T) ∧ Aside0 (Kd.R Kd.string 9 wr 0 (fun x => w2.heap.size ≤ x ∧ x < q) (.slice A1 X.length c1) X) ∧ Aside0 (Frm A w wr) ∧ Aside0 (wr.heap[w.heap.size]? = some (.cells #[.int .i64 l0, .int .i64 l1, .int .i64 l2, .int .u64 l3] 31))) (fun v9 _ => X.length - (intOf v9).toNat)
      case atStart => exact ⟨0, Nat.zero_le _, rfl, D7, HOLD7, RK7, F7, RBX⟩
      case round =>
        clear D7 HOLD7 RK7 F7 RBX
        obtain ⟨a, ha, rfl, HD, HO, HK7, HF, HBX⟩ := hrel
        have hml := HML.out
        by_cases hla : a < X.length
        · have d3 : decide ((a : Int) < (X.length : Int)) = true := decide_eq_true (by omega)
          have a0 : 0 ≤ (a : Int) := by omega
          have a1 : (a : Int) < (X.length : Int) := by omega
          have hrl : a < (risL T).length := by rw [HLL.out]; exact hla
          have HST := Aside0.mk (key_step HI.out (show X[a] ∈ keysR T by rw [HXE.out]; exact List.getElem_mem hla))
          have HRA := Aside0.mk (show (risL T)[a] = slotOf T X[a] by
            have hx := HXE.out
            subst hx
            have e : (risL T)[a]? = some (slotOf T (keysR T)[a]) := by
              unfold risL
              rw [List.getElem?_map, List.getElem?_eq_getElem hla]
              rfl
            rw [List.getElem?_eq_getElem hrl] at e
            injection e)
          have HTK := Aside0.mk (layAll_take (2 * T.length) (risL T) a hrl)
          have HABS := Aside0.mk (layAll_absent HI.out (ris_risL HI.out) a hrl)
          have HUL := Aside0.mk (layAll_length (2 * T.length) ((risL T).take a))
          have HGAP := Aside0.mk (gap_of_cnt (T := layAll (2 * T.length) ((risL T).take a)) (by
            rw [layAll_length]
            have h1 := cnt_layAll (2 * T.length) ((risL T).take a)
            rw [List.length_take] at h1
            omega))
          have HSTR := Aside0.mk (fun W (hW : Below wr.heap.size wr W) => C_strAtR (Kd.C_below (Kd.R_reads' HK7.out).2.2 hW) hla)
          obtain ⟨ad, rfl, _⟩ := HSTR.out wr (Below.refl _ _)
          have HSTR2 := Aside0.mk (fun W (hW : Below wr.heap.size wr W) => (show W.cell? (ad.add a) = some (.string X[a]) by
            obtain ⟨ad', e, h⟩ := HSTR.out W hW
            cases e
            exact h))
          have HKS := Aside0.mk (show (X[a]).size ≤ 4611686018427387904 by
            obtain ⟨i, hi, _, _, h3, _⟩ := HST.out
            rw [← h3]
            exact size_big (HI.out.keys _ (List.getElem_mem hi)))
          rw [HRA.out] at HTK HABS
          clear HSTR HRA
          generalize X[a] = ka at HST HTK HABS HSTR2 HKS
          obtain ⟨i, hi, hat, hsl, hsk, hso⟩ := HST.out
          rw [← hsl] at HTK HABS
          rw [hsk] at HABS
          have HAT := Aside0.mk hat
          have HSS := Aside0.mk (fun W (hW : Below wr.heap.size wr W) => hW)
          obtain ⟨go, co, o3, o4⟩ := HO.out.form hp0
          have O3 := Aside0.mk o3
          have OSL := Aside0.mk (fun W (hW : Below wr.heap.size wr W) => ref_slot (Kd.R_below o4 hW) i hi)
          generalize hsg : T[i] = sl at HTK HABS OSL hsk hso
          obtain ⟨key, ⟨m0, m1, m2, m3⟩, is⟩ := sl
          simp only at hsk hso OSL
          subst hsk hso
          clear hsg hsl hat HST o3 o4 HSS
          have z0 : 0 ≤ (i : Int) := by omega
          have z1 : (i : Int) < (T.length : Int) := by omega
          have HTWO := Aside0.mk (show (layAll (2 * T.length) ((risL T).take a)).length = 2 ^ (j + 1) by rw [HUL.out, HT.out, Nat.pow_succ, Nat.mul_comm])
          generalize layAll (2 * T.length) ((risL T).take a) = U at HD HTK HABS HUL HGAP HTWO
          go_upto_region 11 with (fail)
          refine region_draw (n := 14) (S := fun W => Below wr.heap.size wr W) (ds := [13]) #[false, false, false, false, false, false, false, false, false, false, false, false, false, false] (by kernel_rfl) rfl rfl (fun W => Below wr.heap.size wr W) ((Below.refl _ _).drew) (fun W h => h) ?_
          rintro ws hws
          refine with_tabW rput11tab rput11bits (fun HT_ HW_ => ?_)
          have BS := Aside0.mk hws
          clear hws
          refine pure_ (i := 0) (N := some 57) (v := ?_) (a' := ?_) #[true, false, false, false, false, false, false, false, false, false, false, false, false, false] rfl rfl (any_of HT_.out (by kernel_rfl)) (fun _ _ _ h => h) (Or.inl ⟨by rfl, ?_⟩) ?_ ?_
          rotate_left
          · intro w'
            go_simp
            with_reducible rfl
          rotate_left
          · simp only [Act.put, List.setIfInBounds_toArray, List.set_cons_zero, List.set_cons_succ, i64_w, i32_w]
            rfl
          refine pure_ (i := 1) (N := some 58) (v := ?_) (a' := ?_) #[true, true, false, false, false, false, false, false, false, false, false, false, false, false] rfl rfl (any_of HT_.out (by kernel_rfl)) (fun _ _ _ h => h) (Or.inl ⟨by rfl, ?_⟩) ?_ ?_
          rotate_left
          · intro w'
            go_simp
            with_reducible rfl
          rotate_left
          · simp only [Act.put, List.setIfInBounds_toArray, List.set_cons_zero, List.set_cons_succ, i64_w, i32_w]
            rfl
          refine pure_ (i := 2) (N := some 59) (v := ?_) (a' := ?_) #[true, true, true, false, false, false, false, false, false, false, false, false, false, false] rfl rfl (any_of HT_.out (by kernel_rfl)) (fun _ _ _ h => h) (Or.inl ⟨by rfl, ?_⟩) ?_ ?_
          rotate_left
          · intro w'
            go_simp
            with_reducible rfl
          rotate_left
          · simp only [Act.put, List.setIfInBounds_toArray, List.set_cons_zero, List.set_cons_succ, i64_w, i32_w]
            rfl
          refine pure_ (i := 3) (N := some 60) (v := ?_) (a' := ?_) #[true, true, true, true, false, false, false, false, false, false, false, false, false, false] rfl rfl (any_of HT_.out (by kernel_rfl)) (fun _ _ _ h => h) (Or.inl ⟨by rfl, ?_⟩) ?_ ?_
          rotate_left
          · intro w'
            go_simp
            with_reducible rfl
          rotate_left
          · simp only [Act.put, List.setIfInBounds_toArray, List.set_cons_zero, List.set_cons_succ, i64_w, i32_w]
            rfl
          refine take_ (i := 4) (N := some 61) (v := ?_) (a' := ?_) #[true, true, true, true, true, false, false, false, false, false, false, false, false, false] rfl rfl (take_ofW HT_.out HW_.out (by kernel_rfl)) (fun _ _ _ h => h) (Or.inl ⟨by rfl, ?_⟩) BS.out ?_ ?_
          rotate_left
          · intro w' hW
            obtain ⟨d0, dr⟩ := cells1d (blk_below O3.out hW)
            go_simp
            with_reducible rfl
          rotate_left
          · simp only [Act.put, List.setIfInBounds_toArray, List.set_cons_zero, List.set_cons_succ, i64_w, i32_w]
            rfl
          refine pure_ (i := 5) (N := some 62) (v := ?_) (a' := ?_) #[true, true, true, true, true, true, false, false, false, false, false, false, false, false] rfl rfl (any_of HT_.out (by kernel_rfl)) (fun _ _ _ h => h) (Or.inl ⟨by rfl, ?_⟩) ?_ ?_
          rotate_left
          · intro w'
            go_simp
            with_reducible rfl
          rotate_left
          · simp only [Act.put, List.setIfInBounds_toArray, List.set_cons_zero, List.set_cons_succ, i64_w, i32_w]
            rfl
          refine pure_ (i := 6) (N := some 63) (v := ?_) (a' := ?_) #[true, true, true, true, true, true, true, false, false, false, false, false, false, false] rfl rfl (any_of HT_.out (by kernel_rfl)) (fun _ _ _ h => h) (Or.inl ⟨by rfl, ?_⟩) ?_ ?_
          rotate_left
          · intro w'
            go_simp
            with_reducible rfl
          rotate_left
          · simp only [Act.put, List.setIfInBounds_toArray, List.set_cons_zero, List.set_cons_succ, i64_w, i32_w]
            rfl
          refine pure_ (i := 7) (N := some 64) (v := ?_) (a' := ?_) #[true, true, true, true, true, true, true, true, false, false, false, false, false, false] rfl rfl (any_of HT_.out (by kernel_rfl)) (fun _ _ _ h => h) (Or.inl ⟨by rfl, ?_⟩) ?_ ?_
          rotate_left
          · intro w'
            go_simp
            with_reducible rfl
          rotate_left
          · simp only [Act.put, List.setIfInBounds_toArray, List.set_cons_zero, List.set_cons_succ, i64_w, i32_w]
            rfl
          refine pure_ (i := 8) (N := some 65) (v := ?_) (a' := ?_) #[true, true, true, true, true, true, true, true, true, false, false, false, false, false] rfl rfl (any_of HT_.out (by kernel_rfl)) (fun _ _ _ h => h) (Or.inl ⟨by rfl, ?_⟩) ?_ ?_
          rotate_left
          · intro w'
            go_simp
            with_reducible rfl
          rotate_left
          · simp only [Act.put, List.setIfInBounds_toArray, List.set_cons_zero, List.set_cons_succ, i64_w, i32_w]
            rfl
          refine take_ (i := 9) (N := some 66) (v := ?_) (a' := ?_) #[true, true, true, true, true, true, true, true, true, true, false, false, false, false] rfl rfl (take_ofW HT_.out HW_.out (by kernel_rfl)) (fun _ _ _ h => h) (Or.inl ⟨by rfl, ?_⟩) BS.out ?_ ?_
          rotate_left
          · intro w' hW
            have g0 := HSTR2.out _ hW
            go_simp
            with_reducible rfl
          rotate_left
          · simp only [Act.put, List.setIfInBounds_toArray, List.set_cons_zero, List.set_cons_succ, i64_w, i32_w]
            rfl
          refine one_ (i := 10) (N := some 67) #[true, true, true, true, true, true, true, true, true, true, true, false, false, false] rfl rfl (one_of HT_.out (by kernel_rfl)) (by decide) (fun K hK => ?_)
          refine goes_ Try.func25 (by kernel_rfl) rfl #[.pointer (some ⟨q, 0, none⟩), .string key] (by rfl) rfl rfl (by (try simp only [List.map_toArray, List.map_cons, List.map_nil]); first | done | rfl) ?_
          refine (ref_at.calls ws Ao q T (HO.out.below BS.out) (by omega) key).mono ?_
          rintro e w6 ⟨rfl, rfl⟩
          refine ⟨_, rfl, ?_⟩
          rw [HAT.out]
          refine hK.out _ _ BS.out (fun _ => ?_)
          clear hK K
          refine norm_ (a' := ?_) ?_ ?_
          rotate_left
          · show Act.put _ (some 67) _ = _
            simp only [Act.put, List.setIfInBounds_toArray, List.set_cons_zero, List.set_cons_succ, i64_w, i32_w]
            rfl
          refine pure_ (i := 11) (N := some 68) (v := ?_) (a' := ?_) #[true, true, true, true, true, true, true, true, true, true, true, true, false, false] rfl rfl (any_of HT_.out (by kernel_rfl)) (fun _ _ _ h => h) (Or.inl ⟨by rfl, ?_⟩) ?_ ?_
          rotate_left
          · intro w'
            go_simp
            with_reducible rfl
          rotate_left
          · simp only [Act.put, List.setIfInBounds_toArray, List.set_cons_zero, List.set_cons_succ, i64_w, i32_w]
            rfl
          refine take_ (i := 12) (N := some 69) (v := ?_) (a' := ?_) #[true, true, true, true, true, true, true, true, true, true, true, true, true, false] rfl rfl (take_ofW HT_.out HW_.out (by kernel_rfl)) (fun _ _ _ h => h) (Or.inl ⟨by rfl, ?_⟩) BS.out ?_ ?_
          rotate_left
          · intro w' hW
            obtain ⟨t0, t1, t2, t3, t4, t5⟩ := OSL.out _ hW
            go_simp
            with_reducible rfl
          rotate_left
          · simp only [Act.put, List.setIfInBounds_toArray, List.set_cons_zero, List.set_cons_succ, i64_w, i32_w]
            rfl
          refine last_ (i := 13) (N := some 70) #[true, true, true, true, true, true, true, true, true, true, true, true, true, true] rfl rfl (one_of HT_.out (by kernel_rfl)) (by decide) (fun K hK => ?_)
          refine goes_ Try.func26 (by kernel_rfl) rfl #[.pointer (some ⟨p, 0, none⟩), .agg #[.string key, .int .i64 m0, .int .i64 m1, .int .i64 m2, .int .u64 m3, .bool true]] (by rfl) rfl rfl (by (try simp only [List.map_toArray, List.map_cons, List.map_nil]); first | done | rfl) ?_
          refine (ref_lay.calls ws A' p U (HD.out.below BS.out) (j + 1) (by omega) HTWO.out HGAP.out key m0 m1 m2 m3 true HKS.out (fun i _ => HABS.out i)).mono ?_
          rintro e w8 ⟨rfl, h5, f5⟩
          refine ⟨_, rfl, ?_⟩
          rw [← HTK.out] at h5
          have D8 := Aside0.mk h5
          have F5 := Aside0.mk f5
          clear h5 f5
          refine hK.out _ _ ?_
          clear hK K
          refine norm_ (a' := ?_) ?_ ?_
          rotate_left
          · show Act.put _ (some 70) _ = _
            simp only [Act.put, List.setIfInBounds_toArray, List.set_cons_zero, List.set_cons_succ, i64_w, i32_w]
            rfl
          refine done_ (done_of HT_.out (by kernel_rfl)) ?_
          have F8 := Aside0.mk ((HF.out.andThen (Frm.of_new (S := A) BS.out) (fun i hi => Or.inl hi)).andThen F5.out HAA.out)
          have O8 := Aside0.mk ((HO.out.below BS.out).frm F5.out HAO.out)
          have K8 := Aside0.mk (Kd.R_step (Kd.R_below HK7.out BS.out) (fun x hx hlt => F5.out.block x hlt (HAK.out x hx)))
          have X8 := Aside0.mk (F5.out.keeps (blk_below HBX.out BS.out) HAB2.out)
          go_wp2_with fail
          go_roundw
          case rel => exact ⟨a + 1, by omega, by go_num, D8, O8, K8, F8, X8⟩
          case measure => simp [intOf]; omega
        · have d3 : decide ((a : Int) < (X.length : Int)) = false := decide_eq_false (by omega)
          have haa : a = X.length := by omega
          have HTA := Aside0.mk (show (risL T).take a = risL T by rw [haa, ← HLL.out, List.take_length])
          rw [HTA.out] at HD
          clear haa HTA
          have HALL := layAll_all HI.out (ris_risL HI.out)
          have HUL := Aside0.mk (layAll_length (2 * T.length) (risL T))
          have HTWO := Aside0.mk (show (layAll (2 * T.length) (risL T)).length = 2 ^ (j + 1) by rw [HUL.out, HT.out, Nat.pow_succ, Nat.mul_comm])
          have HABS := Aside0.mk (fun i => absent_of_liv (U := layAll (2 * T.length) (risL T)) (k := k) (fun hm => by
            obtain ⟨s, hs, he⟩ := List.mem_map.1 ((HALL.2.1.map (·.1)).mem_iff.1 hm)
            obtain ⟨h5, h6⟩ := liv_mem.1 hs
            obtain ⟨u, hu, rfl⟩ := List.getElem_of_mem h5
            exact HI.out.good.absent (by rw [HAB.out]; exact fun e => by cases e) u hu (by rw [occ_at hu, if_pos h6, he])) (i := i))
          have HGAP := Aside0.mk (gap_of_cnt (T := layAll (2 * T.length) (risL T)) (by
            rw [layAll_length]
            have h1 := cnt_layAll (2 * T.length) (risL T)
            have h2 := HLL.out
            omega))
          clear HALL
          generalize layAll (2 * T.length) (risL T) = U at HD HUL HTWO HABS HGAP HP3
          obtain ⟨b0, b1, b2, b3, br⟩ := cells4e HBX.out
          go_wp2_with fail
          refine (ref_lay.calls wr A' p U HD.out (j + 1) (by omega) HTWO.out HGAP.out k l0 l1 l2 l3 true HK.out (fun i _ => HABS.out i)).mono ?_
          rintro e w8 ⟨rfl, h5, f5⟩
          rw [← HP3.out] at h5
          have D8 := Aside0.mk h5
          have F8 := Aside0.mk (HF.out.andThen f5 HAA.out)
          clear h5 f5
          go_wp2_with fail
          go_end0
          exact ⟨rfl, A', D8.out, F8.out, HAA.out⟩
  · obtain ⟨i, hie⟩ : ∃ i, fnd (occ T) T.length (hmK T.length k) k = i := ⟨_, rfl⟩
    have HP2 := Aside0.mk (show putF T (k, (l0, l1, l2, l3), true) = T.set i (k, (l0, l1, l2, l3), true) by
      unfold putF
      rw [if_pos h6, ← hie]
      rfl)
    have hii : i < T.length := by rw [← hie]; exact hlt
    have HK1 := Aside0.mk (show (T[i]'hii).1 = k by simp only [← hie]; exact h5)
    have HK2 := Aside0.mk (show (T[i]'hii).2.2 = true by simp only [← hie]; exact h3)
    rw [hie] at h1
    rw [h1]
    clear h1 h2 h3 h5 h6 hlt hie
    have d1 : decide ((i : Int) ≥ 0) = true := decide_eq_true (by omega)
    have i0 : 0 ≤ (i : Int) := by omega
    have i1 : (i : Int) < (T.length : Int) := by omega
    obtain ⟨g, c, h3, h4⟩ := D2.out.form hp0
    have H3 := Aside0.mk h3
    have H4 := Aside0.mk h4
    clear h3 h4
    go_upto_region 3 with (fail)
    refine region_draw (n := 9) (S := fun W => Below w2.heap.size w2 W) (ds := [8]) #[false, false, false, false, false, false, false, false, false] (by kernel_rfl) rfl rfl (fun W => Below w2.heap.size w2 W) ((Below.refl _ _).drew) (fun W h => h) ?_
    rintro ws hws
    refine with_tabW rput3tab rput3bits (fun HT_ HW_ => ?_)
    have BS := Aside0.mk hws
    clear hws
    refine pure_ (i := 0) (N := some 15) (v := ?_) (a' := ?_) #[true, false, false, false, false, false, false, false, false] rfl rfl (any_of HT_.out (by kernel_rfl)) (fun _ _ _ h => h) (Or.inl ⟨by rfl, ?_⟩) ?_ ?_
    rotate_left
    · intro w'
      go_simp
      with_reducible rfl
    rotate_left
    · simp only [Act.put, List.setIfInBounds_toArray, List.set_cons_zero, List.set_cons_succ, i64_w, i32_w]
      rfl
    refine pure_ (i := 1) (N := some 16) (v := ?_) (a' := ?_) #[true, true, false, false, false, false, false, false, false] rfl rfl (any_of HT_.out (by kernel_rfl)) (fun _ _ _ h => h) (Or.inl ⟨by rfl, ?_⟩) ?_ ?_
    rotate_left
    · intro w'
      go_simp
      with_reducible rfl
    rotate_left
    · simp only [Act.put, List.setIfInBounds_toArray, List.set_cons_zero, List.set_cons_succ, i64_w, i32_w]
      rfl
    refine pure_ (i := 2) (N := some 17) (v := ?_) (a' := ?_) #[true, true, true, false, false, false, false, false, false] rfl rfl (any_of HT_.out (by kernel_rfl)) (fun _ _ _ h => h) (Or.inl ⟨by rfl, ?_⟩) ?_ ?_
    rotate_left
    · intro w'
      go_simp
      with_reducible rfl
    rotate_left
    · simp only [Act.put, List.setIfInBounds_toArray, List.set_cons_zero, List.set_cons_succ, i64_w, i32_w]
      rfl
    refine take_ (i := 3) (N := some 18) (v := ?_) (a' := ?_) #[true, true, true, true, false, false, false, false, false] rfl rfl (take_ofW HT_.out HW_.out (by kernel_rfl)) (fun _ _ _ h => h) (Or.inl ⟨by rfl, ?_⟩) BS.out ?_ ?_
    rotate_left
    · intro w' hW
      obtain ⟨d0, dr⟩ := cells1d (blk_below H3.out hW)
      go_simp
      with_reducible rfl
    rotate_left
    · simp only [Act.put, List.setIfInBounds_toArray, List.set_cons_zero, List.set_cons_succ, i64_w, i32_w]
      rfl
    refine pure_ (i := 4) (N := some 19) (v := ?_) (a' := ?_) #[true, true, true, true, true, false, false, false, false] rfl rfl (any_of HT_.out (by kernel_rfl)) (fun _ _ _ h => h) (Or.inl ⟨by rfl, ?_⟩) ?_ ?_
    rotate_left
    · intro w'
      go_simp
      with_reducible rfl
    rotate_left
    · simp only [Act.put, List.setIfInBounds_toArray, List.set_cons_zero, List.set_cons_succ, i64_w, i32_w]
      rfl
    refine take_ (i := 5) (N := some 20) (v := ?_) (a' := ?_) #[true, true, true, true, true, true, false, false, false] rfl rfl (take_ofW HT_.out HW_.out (by kernel_rfl)) (fun _ _ _ h => h) (Or.inl ⟨by rfl, ?_⟩) BS.out ?_ ?_
    rotate_left
    · intro w' hW
      obtain ⟨b0, b1, b2, b3, br⟩ := cells4e (blk_below RB.out hW)
      go_simp
      with_reducible rfl
    rotate_left
    · simp only [Act.put, List.setIfInBounds_toArray, List.set_cons_zero, List.set_cons_succ, i64_w, i32_w]
      rfl
    refine pure_ (i := 6) (N := some 21) (v := ?_) (a' := ?_) #[true, true, true, true, true, true, true, false, false] rfl rfl (any_of HT_.out (by kernel_rfl)) (fun _ _ _ h => h) (Or.inl ⟨by rfl, ?_⟩) ?_ ?_
    rotate_left
    · intro w'
      go_simp
      with_reducible rfl
    rotate_left
    · simp only [Act.put, List.setIfInBounds_toArray, List.set_cons_zero, List.set_cons_succ, i64_w, i32_w]
      rfl
    refine pure_ (i := 7) (N := some 22) (v := ?_) (a' := ?_) #[true, true, true, true, true, true, true, true, false] rfl rfl (any_of HT_.out (by kernel_rfl)) (fun _ _ _ h => h) (Or.inl ⟨by rfl, ?_⟩) ?_ ?_
    rotate_left
    · intro w'
      go_simp
      with_reducible rfl
    rotate_left
    · simp only [Act.put, List.setIfInBounds_toArray, List.set_cons_zero, List.set_cons_succ, i64_w, i32_w]
      rfl
    refine last_ (i := 8) (N := none) #[true, true, true, true, true, true, true, true, true] rfl rfl (one_of HT_.out (by kernel_rfl)) (by decide) (fun K hK => ?_)
    obtain ⟨t0, t1, t2, t3, t4, t5⟩ := ref_slot (Kd.R_below H4.out BS.out) i hii
    have gz0 := ref_frozen (Kd.R_below H4.out BS.out) (i * 6)
    have gz1 := ref_frozen (Kd.R_below H4.out BS.out) (i * 6 + 1)
    have gz2 := ref_frozen (Kd.R_below H4.out BS.out) (i * 6 + 2)
    have gz3 := ref_frozen (Kd.R_below H4.out BS.out) (i * 6 + 3)
    have gz4 := ref_frozen (Kd.R_below H4.out BS.out) (i * 6 + 4)
    have gz5 := ref_frozen (Kd.R_below H4.out BS.out) (i * 6 + 5)
    refine skip_ (w1 := ?_) (by rfl) rfl ?_ ?_
    rotate_left
    · go_simp
      rfl
    refine hK.out _ _ ?_
    clear hK K
    refine done_ (done_of HT_.out (by kernel_rfl)) ?_
    have HSET := Aside0.mk (ref_setL (D2.out.below BS.out).1 (D2.out.below BS.out).2.1 (blk_below H3.out BS.out) (Kd.R_below H4.out BS.out) i hii k HK1.out HK2.out l0 l1 l2 l3)
    rw [← HP2.out] at HSET
    have F7 := Aside0.mk ((F2.out.andThen (Frm.of_new (S := A) BS.out) (fun i hi => Or.inl hi)).andThen HSET.out.2 (fun i hi => Or.inl hi))
    have D7 := Aside0.mk HSET.out.1
    clear HSET t0 t1 t2 t3 t4 t5 gz0 gz1 gz2 gz3 gz4 gz5
    go_wp2_with fail
    go_end0
    exact ⟨rfl, A, D7.out, F7.out, fun k hk => Or.inl hk⟩
end Go.Proofs.Ytcpjfpbfopkngaa.Thw
/-! ## Layer 10: the document's Delete (printed by gen10a.py). -/
namespace Go.Proofs.Ytcpjfpbfopkngaa.Thw
open Go Go.RowKit Go.Proofs.YtcpjfpbfopkngaaW.PrintWords Go.Proofs.YtcpjfpbfopkngaaW.PrintLast Go.Proofs.YtcpjfpbfopkngaaW.PrintMore
set_option linter.unusedVariables false
set_option linter.unusedSimpArgs false
theorem RunAt.uniq {T : List Slt} {i0 r r' : Nat} (h : RunAt T i0 r) (h' : RunAt T i0 r') : r = r' := by
  obtain ⟨_, _, h3, h4⟩ := h
  obtain ⟨_, _, h3', h4'⟩ := h'
  rcases Nat.lt_trichotomy r r' with hl | hl | hl
  · exact absurd h4 (h3' r hl)
  · exact hl
  · exact absurd h4' (h3 r' hl)
def RDelPost (w : World) (A : Nat → Prop) (p : Nat) (T : List Slt) (k : ByteArray) (e : Ending) (w' : World) : Prop :=
  e = .returned (.bool (lk T k).isSome) ∧ Frm A w w' ∧ ((lk T k = none ∧ RefAt w' A p T) ∨ (occ T (fnd (occ T) T.length (hmK T.length k) k) = some k ∧ ∃ r, RunAt T (fnd (occ T) T.length (hmK T.length k) k) r ∧ RefAt w' A p (dl T (fnd (occ T) T.length (hmK T.length k) k) (r - 1))))
set_option maxHeartbeats 12800000 in
set_option maxRecDepth 100000 in
theorem ref_Delete.calls (w : World) (A : Nat → Prop) (p : Nat) (T : List Slt) (m b : Nat) (h : RefAt w A p T) (hi : Inv T m b) (hb : b ≤ 250) (k : ByteArray) (hk : k.size ≤ 100) :
    Calls Try.prog 15 #[.pointer (some ⟨p, 0, none⟩), .string k] w (RDelPost w A p T k) := by
  have hsm := hi.small hb
  have hp0 := hi.pos
  have hcase := inv_at hi k
  obtain ⟨j, _, hj, hT⟩ := hi.exp hb
  have H := Aside0.mk h
  have HT := Aside0.mk hT
  have HI := Aside0.mk hi
  have HKS := Aside0.mk (show ∀ s ∈ T, s.1.size ≤ 4611686018427387904 from fun s hs => size_big (hi.keys s hs))
  have HAT := Aside0.mk (ref_at.calls w A p T h (by omega) k)
  have HP0 := Aside0.mk hp0
  clear h hT hi hk
  go_enter Try.func15, Try.ntmps15
  go_wp2_with fail
  refine HAT.out.mono ?_
  rintro e w1 ⟨rfl, rfl⟩
  clear HAT
  rcases hcase with ⟨h1, h2, _⟩ | ⟨hlt, h1, h2, h3, h5, h6⟩
  · have HV := Aside0.mk (show (lk T k).isSome = false by rw [h2]; rfl)
    have HL := Aside0.mk h2
    rw [h1]
    have d1 : decide ((-1 : Int) < 0) = true := by decide
    clear h1 h2
    go_wp2_with fail
    go_ret
    exact ⟨by rw [HV.out]; rfl, Frm.refl _ _, Or.inl ⟨HL.out, H.out⟩⟩
  · have HV := Aside0.mk (show (lk T k).isSome = true by rw [h2]; rfl)
    obtain ⟨i0, hie⟩ : ∃ i, fnd (occ T) T.length (hmK T.length k) k = i := ⟨_, rfl⟩
    rw [hie] at h1 h6
    have hi : i0 < T.length := by rw [← hie]; exact hlt
    rw [h1]
    have HKK := Aside0.mk h6
    have HIE := Aside0.mk hie
    clear h1 h2 h3 h5 hlt h6 hie
    have d1 : decide ((i0 : Int) < 0) = false := decide_eq_false (by omega)
    have z0 : 0 ≤ (i0 : Int) := by omega
    have z1 : (i0 : Int) < (T.length : Int) := by omega
    have hTn : ¬ T = [] := by intro e; rw [e] at hp0; simp at hp0
    obtain ⟨m', hm1, hm2, hm3, hm4⟩ := run_end hi HI.out.gap (by rw [HKK.out]; simp)
    have HRUN := Aside0.mk (show RunAt T i0 m' from ⟨hm1, hm2, hm3, hm4⟩)
    have HMID := Aside0.mk (dl_mid HI.out.good hi hm1 hm2 hm3 hm4)
    have HM1 := Aside0.mk (And.intro hm1 hm2)
    have HRM := Aside0.mk (fun (i : Nat) => show ((i : Int) + 1) % (T.length : Int) = (((i + 1) % T.length : Nat) : Int) by rw [Int.natCast_emod]; rfl)
    clear hm1 hm2 hm3 hm4
    obtain ⟨g, c, h3, h4⟩ := H.out.form HP0.out
    obtain ⟨c0, fr⟩ := cells1d h3
    obtain ⟨q0, q1, q2, q3, q4, q5⟩ := ref_slot h4 i0 hi
    have fz0 := ref_frozen h4 (i0 * 6)
    have fz1 := ref_frozen h4 (i0 * 6 + 1)
    have fz2 := ref_frozen h4 (i0 * 6 + 2)
    have fz3 := ref_frozen h4 (i0 * 6 + 3)
    have fz4 := ref_frozen h4 (i0 * 6 + 4)
    have fz5 := ref_frozen h4 (i0 * 6 + 5)
    have H3 := Aside0.mk h3
    have H4 := Aside0.mk h4
    clear h3 h4
    go_upto_region 5 with (fail)
    have HSET := Aside0.mk (show RefAt ((((((w.setCell ⟨g, i0 * 6, none⟩ (.string ⟨#[]⟩)).setCell ⟨g, i0 * 6 + 1, none⟩ (.int .i64 0)).setCell ⟨g, i0 * 6 + 2, none⟩ (.int .i64 0)).setCell ⟨g, i0 * 6 + 3, none⟩ (.int .i64 0)).setCell ⟨g, i0 * 6 + 4, none⟩ (.int .u64 0)).setCell ⟨g, i0 * 6 + 5, none⟩ (.bool false)) A p (T.set i0 zS) ∧ Frm A w ((((((w.setCell ⟨g, i0 * 6, none⟩ (.string ⟨#[]⟩)).setCell ⟨g, i0 * 6 + 1, none⟩ (.int .i64 0)).setCell ⟨g, i0 * 6 + 2, none⟩ (.int .i64 0)).setCell ⟨g, i0 * 6 + 3, none⟩ (.int .i64 0)).setCell ⟨g, i0 * 6 + 4, none⟩ (.int .u64 0)).setCell ⟨g, i0 * 6 + 5, none⟩ (.bool false)) from ref_set H.out.1 H.out.2.1 H3.out H4.out i0 hi zS)
    generalize ((((((w.setCell ⟨g, i0 * 6, none⟩ (.string ⟨#[]⟩)).setCell ⟨g, i0 * 6 + 1, none⟩ (.int .i64 0)).setCell ⟨g, i0 * 6 + 2, none⟩ (.int .i64 0)).setCell ⟨g, i0 * 6 + 3, none⟩ (.int .i64 0)).setCell ⟨g, i0 * 6 + 4, none⟩ (.int .u64 0)).setCell ⟨g, i0 * 6 + 5, none⟩ (.bool false)) = w2 at HSET ⊢
    clear c0 fr q0 q1 q2 q3 q4 q5 fz0 fz1 fz2 fz3 fz4 fz5
    have hl2 : (T.set i0 zS).length = T.length := List.length_set
    obtain ⟨g2, c2, h3, h4⟩ := HSET.out.1.form (by rw [hl2]; exact HP0.out)
    rw [hl2] at h3
    obtain ⟨c0, fr⟩ := cells1d h3
    clear h3 h4 hl2
    have D3 := Aside0.mk HSET.out.1
    have F3 := Aside0.mk HSET.out.2
    clear HSET
    go_wp2_with fail
    rw [HRM.out i0]
    clear c0 fr
    go_loopw [5] (fun v5 wr => ∃ t : Nat, t + 1 ≤ m' ∧ v5 = .int .i64 ((i0 + (t + 1)) % T.length : Nat) ∧ Aside0 (RefAt wr A p (dl T i0 t)) ∧ Aside0 (Frm A w wr)) (fun v5 _ => T.length - ((intOf v5).toNat + T.length - i0) % T.length)
    case atStart => exact ⟨0, HM1.out.1, rfl, D3, F3⟩
    case round =>
      clear D3 F3
      obtain ⟨t, ht, rfl, HD, HF⟩ := hrel
      obtain ⟨hM, hs⟩ := HMID.out t (by omega)
      have hjj : (i0 + (t + 1)) % T.length < T.length := Nat.mod_lt _ HP0.out
      have HWD := Aside0.mk (walk_dist (n := T.length) (h := i0) (d := t + 1) hi (by have := HM1.out; omega))
      have HWN := Aside0.mk (walk_next (n := T.length) (h := i0) (d := t + 1))
      have hXl : (dl T i0 t).length = T.length := dl_length T i0 t
      have HXL := Aside0.mk hXl
      obtain ⟨g, c, h3, h4⟩ := HD.out.form (by rw [hXl]; exact HP0.out)
      rw [hXl] at h3 h4
      obtain ⟨c0, fr⟩ := cells1d h3
      have HOC := Aside0.mk (occ_at (T := dl T i0 t) (by rw [hXl]; exact hjj))
      obtain ⟨q0, q1, q2, q3, q4, q5⟩ := ref_slot h4 ((i0 + (t + 1)) % T.length) (by rw [hXl]; exact hjj)
      have HTAIL := Aside0.mk (fun he : t + 1 = m' => (by have h := hM.tail (t + 1) (Nat.le_refl _) (by omega); rw [h, he]; exact HRUN.out.2.2.2 : occ (dl T i0 t) ((i0 + (t + 1)) % T.length) = none))
      have HMEM := Aside0.mk (dl_mem (T := T) (i0 := i0) (s := (dl T i0 t)[(i0 + (t + 1)) % T.length]'(by rw [hXl]; exact hjj)) t (List.getElem_mem _))
      have HSTEP := Aside0.mk (fun (hlt : t + 1 < m') (key : ByteArray) (hk : occ (dl T i0 t) ((i0 + (t + 1)) % T.length) = some key) => (hM.step (fun k => hmK_lt k HP0.out) hi hlt HM1.out.2 HI.out.good HRUN.out.2.2.2 hk).2.1)
      have HINJ := Aside0.mk (fun (i : Nat) (key : ByteArray) (hk : occ (dl T i0 t) ((i0 + (t + 1)) % T.length) = some key) (hlt : i < T.length) (h : occ (dl T i0 t) i = some key) => hM.inj i _ hlt hjj key h hk)
      have HSOME := Aside0.mk (fun hlt : t + 1 < m' => hs hlt)
      have HGET := Aside0.mk (List.getElem?_eq_getElem (l := dl T i0 t) (i := (i0 + (t + 1)) % T.length) (by rw [hXl]; exact hjj))
      have HDL := Aside0.mk (show dl T i0 (t + 1) = reT (dl T i0 t) ((i0 + (t + 1)) % T.length) from rfl)
      clear hM hs
      generalize hsl : (dl T i0 t)[(i0 + (t + 1)) % T.length]'(by rw [hXl]; exact hjj) = s at q0 q1 q2 q3 q4 q5 HOC HMEM HGET
      clear hsl
      obtain ⟨key, ⟨l0, l1, l2, l3⟩, is⟩ := s
      simp only at q0 q1 q2 q3 q4 q5 HOC
      generalize hx : (i0 + (t + 1)) % T.length = jj at hjj HWD HWN HOC q0 q1 q2 q3 q4 q5 HTAIL HSTEP HSOME HGET HDL HINJ ⊢
      clear hx
      have j0 : 0 ≤ (jj : Int) := by omega
      have j1 : (jj : Int) < (T.length : Int) := by omega
      by_cases hlt : t + 1 < m'
      · have his : is = true := by
          obtain ⟨s2, e1, e2⟩ := HSOME.out hlt
          rw [HGET.out] at e1
          injection e1 with e1
          rw [← e1] at e2
          exact e2
        subst his
        have HON := Aside0.mk (HOC.out.trans (if_pos rfl))
        have HGAP1 := Aside0.mk (HSTEP.out hlt key HON.out)
        have HAB := Aside0.mk (show ∀ i, i < T.length → upd' (occ (dl T i0 t)) jj none i ≠ some key by
          intro i hi2 e
          unfold upd' at e
          split at e
          · cases e
          · rename_i hne
            exact hne (HINJ.out i key HON.out hi2 e))
        have HKEY := Aside0.mk (show key.size ≤ 4611686018427387904 by
          rcases HMEM.out with h5 | h5
          · exact HKS.out _ h5
          · have e1 := congrArg (fun x : Slt => x.1) h5
            have e2 : key = ⟨#[]⟩ := e1
            rw [e2]
            decide)
        have HH := Aside0.mk (show dl T i0 (t + 1) = lay ((dl T i0 t).set jj zS) (key, (l0, l1, l2, l3), true) by
          rw [HDL.out]
          unfold reT lay
          rw [HGET.out]
          simp only [HXL.out, List.length_set])
        have HDN := Aside0.mk (dl_length T i0 (t + 1))
        clear HDL HSTEP HSOME HTAIL HMEM HMID HGET HOC HINJ HON
        have FZ := Aside0.mk (fun o => ref_frozen (T := dl T i0 t) (Kd.R_alloc h4 (.cells #[.string key, .int .i64 l0, .int .i64 l1, .int .i64 l2, .int .u64 l3, .bool true] 59)) o)
        have HD5 := Aside0.mk (HD.out.below ((Below.refl _ wr).alloc (Nat.le_refl _) (.cells #[.string key, .int .i64 l0, .int .i64 l1, .int .i64 l2, .int .u64 l3, .bool true] 59)))
        have H35 := Aside0.mk (blk_alloc h3 (.cells #[.string key, .int .i64 l0, .int .i64 l1, .int .i64 l2, .int .u64 l3, .bool true] 59))
        have H45 := Aside0.mk (Kd.R_alloc h4 (.cells #[.string key, .int .i64 l0, .int .i64 l1, .int .i64 l2, .int .u64 l3, .bool true] 59))
        have X5 := Aside0.mk (blk_new wr (.cells #[.string key, .int .i64 l0, .int .i64 l1, .int .i64 l2, .int .u64 l3, .bool true] 59))
        have HXO := Aside0.mk (fun ha : A wr.heap.size => Nat.lt_irrefl _ (HD.out.2.1 _ ha))
        have F5 := Aside0.mk (HF.out.alloc (.cells #[.string key, .int .i64 l0, .int .i64 l1, .int .i64 l2, .int .u64 l3, .bool true] 59))
        generalize dl T i0 t = X at HXL h4 H45 HD5 HGAP1 HH HAB ⊢
        obtain ⟨r0, r1, r2, r3, r4, r5⟩ := ref_slot H45.out jj (by rw [HXL.out]; exact hjj)
        obtain ⟨d0, dr⟩ := cells1d H35.out
        have fz0 := FZ.out (jj * 6)
        have fz1 := FZ.out (jj * 6 + 1)
        have fz2 := FZ.out (jj * 6 + 2)
        have fz3 := FZ.out (jj * 6 + 3)
        have fz4 := FZ.out (jj * 6 + 4)
        have fz5 := FZ.out (jj * 6 + 5)
        clear HD HF h3 h4 FZ
        obtain ⟨bx, hbx⟩ : ∃ bx, wr.heap.size = bx := ⟨_, rfl⟩
        rw [hbx] at X5 HXO
        go_upto_region 9 with (fail)
        try rw [hbx]
        clear hbx
        generalize wr.alloc (.cells #[.string key, .int .i64 l0, .int .i64 l1, .int .i64 l2, .int .u64 l3, .bool true] 59) = w4 at H35 H45 HD5 X5 F5 d0 dr r0 r1 r2 r3 r4 r5 fz0 fz1 fz2 fz3 fz4 fz5 ⊢
        clear q0 q1 q2 q3 q4 q5 c0 fr
        go_upto_region 10 with (fail)
        have HSET := Aside0.mk (show RefAt ((((((w4.setCell ⟨g, jj * 6, none⟩ (.string ⟨#[]⟩)).setCell ⟨g, jj * 6 + 1, none⟩ (.int .i64 0)).setCell ⟨g, jj * 6 + 2, none⟩ (.int .i64 0)).setCell ⟨g, jj * 6 + 3, none⟩ (.int .i64 0)).setCell ⟨g, jj * 6 + 4, none⟩ (.int .u64 0)).setCell ⟨g, jj * 6 + 5, none⟩ (.bool false)) A p (X.set jj zS) ∧ Frm A w4 ((((((w4.setCell ⟨g, jj * 6, none⟩ (.string ⟨#[]⟩)).setCell ⟨g, jj * 6 + 1, none⟩ (.int .i64 0)).setCell ⟨g, jj * 6 + 2, none⟩ (.int .i64 0)).setCell ⟨g, jj * 6 + 3, none⟩ (.int .i64 0)).setCell ⟨g, jj * 6 + 4, none⟩ (.int .u64 0)).setCell ⟨g, jj * 6 + 5, none⟩ (.bool false)) from ref_set HD5.out.1 HD5.out.2.1 (by rw [HXL.out]; exact H35.out) (by have h := H45.out; rwa [← HXL.out] at h) jj (by rw [HXL.out]; exact hjj) zS)
        have XB := Aside0.mk (HSET.out.2.keeps X5.out HXO.out)
        have F6 := Aside0.mk (F5.out.andThen HSET.out.2 (fun i hi => Or.inl hi))
        have D6 := Aside0.mk HSET.out.1
        clear HSET X5 F5 HD5 H35 H45 d0 dr r0 r1 r2 r3 r4 r5 fz0 fz1 fz2 fz3 fz4 fz5
        generalize ((((((w4.setCell ⟨g, jj * 6, none⟩ (.string ⟨#[]⟩)).setCell ⟨g, jj * 6 + 1, none⟩ (.int .i64 0)).setCell ⟨g, jj * 6 + 2, none⟩ (.int .i64 0)).setCell ⟨g, jj * 6 + 3, none⟩ (.int .i64 0)).setCell ⟨g, jj * 6 + 4, none⟩ (.int .u64 0)).setCell ⟨g, jj * 6 + 5, none⟩ (.bool false)) = w5 at XB F6 D6 ⊢
        obtain ⟨b0, b1, b2, b3, b4, b5, br⟩ := cells6d XB.out
        have HYL := Aside0.mk (show (X.set jj zS).length = T.length by rw [List.length_set]; exact HXL.out)
        go_wp2_with fail
        refine (ref_lay.calls w5 A p (X.set jj zS) D6.out j (by omega) (by rw [HYL.out]; exact HT.out) (by rw [HYL.out, occ_set_z (by rw [HXL.out]; exact hjj)]; exact HGAP1.out) key l0 l1 l2 l3 true HKEY.out (fun i hi2 => by rw [occ_set_z (by rw [HXL.out]; exact hjj)]; exact HAB.out i (by rw [← HYL.out]; exact hi2))).mono ?_
        rintro e w7 ⟨rfl, h5, f5⟩
        rw [← HH.out] at h5
        have D7 := Aside0.mk h5
        have F7 := Aside0.mk (F6.out.andThen f5 (fun i hi => Or.inl hi))
        clear h5 f5 b0 b1 b2 b3 b4 b5 br
        obtain ⟨g7, c7, h3, h4⟩ := D7.out.form (by rw [HDN.out]; exact HP0.out)
        rw [HDN.out] at h3
        obtain ⟨d0, dr⟩ := cells1d h3
        clear h3 h4
        go_wp2_with fail
        go_roundw
        case rel =>
          refine ⟨?u0, ?u1, ?u2, ?u3, ?u4, ?u5, ?u6, ?u7, ?u8, ?u9, ?u10, ?u11, ?u12, ?u13, ?u14, ?u15, ?u16, ?u17, ?u18, ?u19, ?u20, ?u21, ?u22, ?u23, ?u24, ?u25, ?u26, ?u27, ?u28, ?u29, ?u30, ?u31, ?u32, ?u33, ?u34, ⟨t + 1, by omega, ?e, D7, F7⟩, ?f⟩
          case f =>
            rfl
          case e => rw [← HWN.out, ← HRM.out jj]
        case measure =>
          have h7 := walk_dist (n := T.length) (h := i0) (d := t + 1 + 1) hi (by have := HM1.out; omega)
          have h9 := HWD.out
          have hI : ∀ z : Int, intOf (Value.int .i64 z) = z := fun z => rfl
          rw [HRM.out jj]
          show T.length - ((intOf (Value.int .i64 (((jj + 1) % T.length : Nat) : Int))).toNat + T.length - i0) % T.length < T.length - ((intOf (Value.int .i64 (jj : Int))).toNat + T.length - i0) % T.length
          rw [hI, hI, Int.toNat_natCast, Int.toNat_natCast, HWN.out, h7, h9]
          have := HM1.out
          omega
      · have he : t + 1 = m' := by omega
        have his : is = false := by
          have h5 := HTAIL.out he
          rw [HOC.out] at h5
          cases is with
          | false => rfl
          | true => rw [if_pos rfl] at h5; cases h5
        subst his
        have HTM := Aside0.mk (show t = m' - 1 by omega)
        clear he hlt
        go_wp2_with fail
        go_ret
        refine ⟨by rw [HV.out]; rfl, HF.out, Or.inr ?_⟩
        rw [HIE.out]
        refine ⟨HKK.out, m', HRUN.out, ?_⟩
        rw [← HTM.out]
        exact HD.out
end Go.Proofs.Ytcpjfpbfopkngaa.Thw
/-! ## Layer 10: KeydirPlays' walk (printed by gen10k.py). -/
namespace Go.Proofs.Ytcpjfpbfopkngaa.Thw
open Go Go.RowKit Go.Proofs.YtcpjfpbfopkngaaW.PrintWords Go.Proofs.YtcpjfpbfopkngaaW.PrintLast Go.Proofs.YtcpjfpbfopkngaaW.PrintMore
set_option linter.unusedVariables false
set_option linter.unusedSimpArgs false
/-- Both directories, of one table. -/
structure Two (B p r : Nat) (W : World) (A A2 : Nat → Prop) (T : List Slt) (m k : Nat) : Prop where
  d : DirAt W A p T (m : Nat)
  f : RefAt W A2 r T
  i : Inv T m k
  a : ∀ x, A x → B ≤ x
  b : ∀ x, A2 x → B ≤ x
  n : ∀ x, A x → ¬ A2 x
def TwoRel (B p r k : Nat) (w W : World) : Prop := ∃ A A2 T m, Two B p r W A A2 T m k ∧ Below B w W
section
variable {B p r k m : Nat} {w W W' : World} {A A2 : Nat → Prop} {T : List Slt}
theorem Two.below (h : Two B p r W A A2 T m k) (hb : Below W.heap.size W W') : Two B p r W' A A2 T m k := ⟨h.d.below hb, h.f.below hb, h.i, h.a, h.b, h.n⟩
theorem Two.le (h : Two B p r W A A2 T m k) {k' : Nat} (hk : k ≤ k') : Two B p r W A A2 T m k' := ⟨h.d, h.f, h.i.le' hk, h.a, h.b, h.n⟩
theorem Two.put {w3 w4 : World} {A3 A4 : Nat → Prop} {T3 : List Slt} {m3 : Nat} (h : Two B p r W A A2 T m k) (hB : B ≤ W.heap.size) (d3 : DirAt w3 A3 p T3 (m3 : Nat)) (i3 : Inv T3 m3 (k + 1)) (f3 : Frm A W w3) (s3 : ∀ x, A3 x → A x ∨ W.heap.size ≤ x)
    (h4 : RefAt w4 A4 r T3) (f4 : Frm A2 w3 w4) (s4 : ∀ x, A4 x → A2 x ∨ w3.heap.size ≤ x) : Two B p r w4 A3 A4 T3 m3 (k + 1) ∧ Below B W w4 := by
  have n3 : ∀ x, A3 x → ¬ A2 x := fun x hx hy => (s3 x hx).elim (fun h1 => h.n x h1 hy) (fun h1 => by have := h.f.2.1 x hy; omega)
  refine ⟨⟨d3.frm f4 n3, h4, i3, fun x hx => (s3 x hx).elim (h.a x) (fun h1 => by omega), fun x hx => (s4 x hx).elim (h.b x) (fun h1 => by have := f3.size; omega), fun x hx hy => (s4 x hy).elim (n3 x hx) (fun h1 => by have := d3.2.1 x hx; omega)⟩, ?_⟩
  exact (f3.below hB (fun i _ hi => h.a i hi)).trans (f4.below (Nat.le_trans hB f3.size) (fun i _ hi => h.b i hi))
end
theorem two_del {B p r k m m5 : Nat} {W w5 w6 : World} {A A2 : Nat → Prop} {T T5 : List Slt} {x : ByteArray} (h : Two B p r W A A2 T m k) (hB : B ≤ W.heap.size) (d5 : DirAt w5 A p T5 (m5 : Nat)) (i5 : Inv T5 m5 (k + 1)) (f5 : Frm A W w5)
    (t5 : (lk T x = none ∧ T5 = T) ∨ (occ T (fnd (occ T) T.length (hmK T.length x) x) = some x ∧ ∃ r, RunAt T (fnd (occ T) T.length (hmK T.length x) x) r ∧ T5 = dl T (fnd (occ T) T.length (hmK T.length x) x) (r - 1)))
    (f6 : Frm A2 w5 w6) (t6 : (lk T x = none ∧ RefAt w6 A2 r T) ∨ (occ T (fnd (occ T) T.length (hmK T.length x) x) = some x ∧ ∃ r', RunAt T (fnd (occ T) T.length (hmK T.length x) x) r' ∧ RefAt w6 A2 r (dl T (fnd (occ T) T.length (hmK T.length x) x) (r' - 1)))) :
    Two B p r w6 A A2 T5 m5 (k + 1) ∧ Below B W w6 := by
  have hno : lk T x = none → occ T (fnd (occ T) T.length (hmK T.length x) x) = some x → False := by
    intro h1 h2
    rcases h.i.two x with ⟨h3, _⟩ | ⟨_, _, _, _, h3⟩
    · rw [h2] at h3; cases h3
    · rw [h1] at h3; cases h3
  have hR : RefAt w6 A2 r T5 := by
    rcases t5 with ⟨h1, rfl⟩ | ⟨h1, q, h2, rfl⟩
    · rcases t6 with ⟨_, h4⟩ | ⟨h4, _⟩
      · exact h4
      · exact (hno h1 h4).elim
    · rcases t6 with ⟨h4, _⟩ | ⟨_, q', h4, h5⟩
      · exact (hno h4 h1).elim
      · rw [RunAt.uniq h2 h4]; exact h5
  exact Two.put h hB d5 i5 f5 (fun x hx => Or.inl hx) hR f6 (fun x hx => Or.inl hx)
theorem str_l0 (L : List ByteArray) (hl : L.length ≤ 1000000) : ∀ (n i fuel : Nat), L.length - i = n → i ≤ L.length → n < fuel → Ref.thwartref06_Strings.l0 fuel L L (i : Int) = some true := by
  intro n
  induction n with
  | zero =>
    intro i fuel hn hi hf
    obtain ⟨fuel, rfl⟩ : ∃ f, fuel = f + 1 := ⟨fuel - 1, by omega⟩
    rw [Ref.thwartref06_Strings.l0, if_neg (by omega)]
  | succ n ih =>
    intro i fuel hn hi hf
    obtain ⟨fuel, rfl⟩ : ∃ f, fuel = f + 1 := ⟨fuel - 1, by omega⟩
    have e2 : wrap64 ((i : Int) + 1) = ((i + 1 : Nat) : Int) := by rw [wrap64_in (by omega) (by omega)]; rfl
    rw [Ref.thwartref06_Strings.l0, if_pos (by omega), if_pos (by omega), if_pos (by omega), if_pos rfl, e2]
    exact ih (i + 1) fuel (by omega) (by omega) (by omega)
theorem str_f (L : List ByteArray) (hl : L.length ≤ 1000000) : Ref.thwartref06_Strings.f (L.length + 1) L L = some true := by
  unfold Ref.thwartref06_Strings.f
  rw [if_pos rfl]
  exact str_l0 L hl L.length 0 _ (by omega) (by omega) (by omega)
theorem kL_KR {w : World} {x : Loc4} {cs : List Value} (h : kL.K w x cs) : cs = [.int .i64 x.1, .int .i64 x.2.1, .int .i64 x.2.2.1, .int .u64 x.2.2.2] := by
  obtain ⟨c0, c1, rfl, h0, ⟨c2, c3, rfl, h2, ⟨c4, c5, rfl, h4, h5⟩⟩⟩ := h
  have h0' : c0 = [Value.int .i64 x.1] := h0
  have h2' : c2 = [Value.int .i64 x.2.1] := h2
  have h4' : c4 = [Value.int .i64 x.2.2.1] := h4
  have h5' : c5 = [Value.int .u64 x.2.2.2] := h5
  subst h0' h2' h4' h5'
  rfl
theorem C_locAtR {w : World} {A : Option Addr} {xs : List Loc4} (h : kL.C w A xs.length xs) {k : Nat} (hk : k < xs.length) : ∃ ad, A = some ad ∧ w.cell? (ad.add (k * 4)) = some (.int .i64 xs[k].1) ∧ w.cell? ⟨(ad.add (k * 4)).block, (ad.add (k * 4)).off + 1, none⟩ = some (.int .i64 xs[k].2.1) ∧ w.cell? ⟨(ad.add (k * 4)).block, (ad.add (k * 4)).off + 2, none⟩ = some (.int .i64 xs[k].2.2.1) ∧
    w.cell? ⟨(ad.add (k * 4)).block, (ad.add (k * 4)).off + 3, none⟩ = some (.int .u64 xs[k].2.2.2) := by
  obtain ⟨ad, c, e, hl, hK, hc⟩ := ReadsRow.get_ h zL (k : Int) (by omega) (by omega)
  have hx : xs.getD k zL = xs[k] := by simp [hk, List.getD_eq_getElem?_getD]
  have h1 : c = [.int .i64 xs[k].1, .int .i64 xs[k].2.1, .int .i64 xs[k].2.2.1, .int .u64 xs[k].2.2.2] := by
    rw [← hx]
    exact kL_KR hK
  subst h1
  have hc' : ∀ (j : Nat) u, ([.int .i64 xs[k].1, .int .i64 xs[k].2.1, .int .i64 xs[k].2.2.1, .int .u64 xs[k].2.2.2] : List Value)[j]? = some u → w.cell? (ad.add (k * 4 + j)) = some u := hc
  exact ⟨ad, e, hc' 0 _ rfl, by rw [← add_field _ _ 1 (by omega)]; exact hc' 1 _ rfl, by rw [← add_field _ _ 2 (by omega)]; exact hc' 2 _ rfl, by rw [← add_field _ _ 3 (by omega)]; exact hc' 3 _ rfl⟩
theorem strs_calls (L : List ByteArray) (hl : L.length ≤ 1000000) (A : Option Addr) (n c : Nat) (A' : Option Addr) (n' c' : Nat) (W : World) (b b' : Nat) (ok ok' : Nat → Prop) (hR : Kd.R Kd.string 9 W b ok (.slice A n c) L) (hR' : Kd.R Kd.string 9 W b' ok' (.slice A' n' c') L) :
    Calls Try.prog 22 #[.slice A n c, .slice A' n' c'] W fun e w' => e = .returned (.bool true) ∧ Below W.heap.size W w' := by
  obtain ⟨rfl, hc, hC⟩ := Kd.R_reads' hR
  obtain ⟨rfl, hc', hC'⟩ := Kd.R_reads' hR'
  exact (Ref.thwartref06_Strings.calls _ A c L A' c' L _ W hC hc hC' hc' (str_f L hl)).mono fun e w' h => ⟨h.1, h.2.below⟩
theorem lk_ris {T : List Slt} {m b : Nat} (h : Inv T m b) {s : Slt} (hs : s ∈ risL T) : lk T s.1 = some s.2.1 := by
  obtain ⟨h1, h2⟩ := ris_mem (ris_risL h) hs
  obtain ⟨u, hu, rfl⟩ := List.getElem_of_mem h1
  exact lk_some_of rfl h.good hu h2
def fromB (k x : ByteArray) : Bool := !(Op.bytesLess x.toList k.toList)
theorem keys_from {T : List Slt} {m b : Nat} (h : Inv T m b) (k : ByteArray) : (keysR T).filter (fromB k) = ((risL T).filter (onB k)).map (·.1) := by
  rw [← risL_keys h, List.filter_map]
  rfl
def plays13T : Bool × List (List Nat × List Nat) := (true, [([], []), ([], []), ([1], [1]), ([0, 2], [0, 2]), ([], []), ([], []), ([5], [5]), ([4, 6, 3], [4, 6]), ([3, 7], [3, 7]), ([8, 7, 0, 1, 2, 3, 4, 5, 6, 7, 8], [8])])
def plays13B : List Nat := [0, 0, 2, 7, 0, 0, 32, 127, 255, 511]
theorem plays13tab : rtab .any (opsOf Try.f3 13) = plays13T := by kernel_rfl
theorem plays13bits : waitsOk plays13T.2 plays13B = true := by kernel_rfl
def plays24T : Bool × List (List Nat × List Nat) := (true, [([], []), ([0], [0]), ([1], [1]), ([2], [2]), ([3, 2, 2], [2, 3]), ([2], [2]), ([5, 2], [2, 5]), ([4, 6, 2], [2, 4, 6]), ([2, 7], [2, 7]), ([8, 4], [8]), ([9], [9]), ([10, 9, 9], [9, 10]), ([9], [9]), ([12, 9], [9, 12]), ([13, 9], [9, 13]), ([14, 9], [9, 14]), ([15, 9], [9, 15]), ([11, 16, 9], [9, 11, 16]), ([9, 17], [9, 17])])
def plays24B : List Nat := [0, 1, 3, 7, 15, 7, 39, 127, 255, 511, 1023, 2047, 1023, 5119, 13311, 29695, 62463, 131071, 262143]
theorem plays24tab : rtab .any (opsOf Try.f3 24) = plays24T := by kernel_rfl
theorem plays24bits : waitsOk plays24T.2 plays24B = true := by kernel_rfl
def plays48T : Bool × List (List Nat × List Nat) := (true, [([], []), ([], []), ([0, 1], [0, 1]), ([2], [2]), ([], []), ([3, 4], [3, 4]), ([5, 0, 1, 2, 3, 4, 5], [5])])
def plays48B : List Nat := [0, 0, 3, 7, 0, 31, 63]
theorem plays48tab : rtab .any (opsOf Try.f3 48) = plays48T := by kernel_rfl
theorem plays48bits : waitsOk plays48T.2 plays48B = true := by kernel_rfl
set_option maxHeartbeats 25600000 in
set_option maxRecDepth 100000 in
theorem plays_walk (A1 : Option Addr) (n c1 : Nat) (ops : Nat → OpK) (from_ : ByteArray) (w : World) (hc : OpsK w A1 n ops) (hn : n ≤ c1) :
    Calls Try.prog 3 #[.slice A1 n c1, .string from_] w fun e w' => e = .returned (.bool true) ∧ Below w.heap.size w w' := by
  have HC := Aside0.mk hc
  clear hc
  go_enter Try.func3, Try.ntmps3
  go_wp2_with fail
  refine (awake10.calls _).mono ?_
  rintro e w1 ⟨rfl, b1⟩
  have B1 := Aside0.mk b1
  clear b1
  go_wp2_with fail
  refine (light10.calls A1 n c1 ops _ (HC.out.below B1.out (Nat.le_refl _)) hn).mono ?_
  rintro e w' ⟨rl, rfl, rfl, hl⟩
  have HL := Aside0.mk hl
  clear hl
  go_wp2_with fail
  refine (dir_New.calls _).mono ?_
  rintro e w2 ⟨p, rfl, d2, b2⟩
  have D2 := Aside0.mk d2
  have B2 := Aside0.mk b2
  clear d2 b2
  go_wp2_with fail
  refine (ref_New.calls _).mono ?_
  rintro e w3 ⟨r, rfl, d3, b3⟩
  have H0 := Aside0.mk (show TwoRel w.heap.size p r 0 w w3 from ⟨_, _, _, 0, ⟨D2.out.below b3, d3, Inv.start, fun x h => Nat.le_trans B1.out.size h.1, fun x h => Nat.le_trans (Nat.le_trans B1.out.size B2.out.size) h.1, fun x h h' => by omega⟩, B1.out.trans ((B2.out.trans (b3.mono B2.out.size)).mono B1.out.size)⟩)
  have BB := Aside0.mk (B1.out.trans ((B2.out.trans (b3.mono B2.out.size)).mono B1.out.size))
  clear d3 b3 D2 B2
  cases rl with
  | false =>
    go_wp2_with fail
    go_ret
    exact ⟨rfl, BB.out⟩
  | true =>
  obtain ⟨hn150, hks⟩ := HL.out rfl
  have HK := Aside0.mk hks
  clear hks
  by_cases hfr : 100 < from_.size
  · have dfr : decide ((100 : Int) < (from_.size : Int)) = true := decide_eq_true (by omega)
    go_wp2_with fail
    go_ret
    exact ⟨rfl, BB.out⟩
  have dfr : decide ((100 : Int) < (from_.size : Int)) = false := decide_eq_false (by omega)
  go_wp2_with fail
  clear BB
  go_loopw [9] (fun v9 wr => ∃ k : Nat, k ≤ n ∧ v9 = .int .i64 k ∧ Aside0 (TwoRel w.heap.size p r k w wr)) (fun v9 _ => n - (intOf v9).toNat)
  case atStart => exact ⟨0, Nat.zero_le _, rfl, H0⟩
  case round =>
    clear H0
    obtain ⟨k, hk, rfl, HR⟩ := hrel
    by_cases hkn : k < n
    case neg =>
     as_aux_lemma =>
      have dkn : decide ((k : Int) < (n : Int)) = false := decide_eq_false (by omega)
      obtain ⟨A, A2, T, m, hT, hB⟩ := HR.out
      have PB := Aside0.mk hT
      have BB := Aside0.mk hB
      have HSM := Aside0.mk (hT.i.small (show k ≤ 250 by omega))
      have HP1 := Aside0.mk hT.i.pos
      clear hT hB HR
      go_wp2_with fail
      refine (keys.calls wr A p T m PB.out.d HSM.out from_).mono ?_
      rintro e w4 ⟨L, Ak, ck, Al, cl, hris, rfl, hr1, hr2, hb4⟩
      have HLE := Aside0.mk (ris_unique PB.out.i hris (ris_risL PB.out.i))
      rw [HLE.out] at hr1 hr2 ⊢
      have HRK := Aside0.mk hr1
      have HRL := Aside0.mk hr2
      have P4 := Aside0.mk (PB.out.below hb4)
      have B4 := Aside0.mk (BB.out.trans (hb4.mono BB.out.size))
      clear hris hr1 hr2 hb4 HLE PB BB
      have HEQ := Aside0.mk (keys_from P4.out.i from_)
      have HKL := Aside0.mk (keysR_length P4.out.i)
      obtain ⟨Y, hY⟩ : ∃ Y, (risL T).filter (onB from_) = Y := ⟨_, rfl⟩
      rw [hY] at HRK HRL HEQ ⊢
      have HYE := Aside0.mk hY
      clear hY
      go_wp2_with fail
      refine (ref_Keys.calls w4 A2 r T P4.out.f HSM.out HP1.out).mono ?_
      rintro e w5 ⟨Aw, cw, rfl, hR, hb5⟩
      have P5 := Aside0.mk (P4.out.below hb5)
      have B5 := Aside0.mk (B4.out.trans (hb5.mono B4.out.size))
      have R5 := Aside0.mk hR
      have HRK5 := Aside0.mk (Kd.R_below HRK.out hb5)
      have HRL5 := Aside0.mk (Kd.R_below HRL.out hb5)
      have HML := Aside0.mk (show (keysR T).length ≤ 1000 by have h1 := P4.out.i.half; have h2 := HSM.out; rw [HKL.out]; omega)
      clear hR hb5 P4 B4 HRK HRL
      generalize keysR T = X at HEQ HKL R5 HML ⊢
      go_wp2_with fail
      go_loopw [28, 30] (fun v28 v30 wx => ∃ a : Nat, a ≤ X.length ∧ v30 = .int .i64 a ∧ Aside0 (Kd.R Kd.string 9 wx w5.heap.size (fun _ => True) v28 ((X.take a).filter (fromB from_))) ∧ Aside0 (Below w5.heap.size w5 wx)) (fun _ v30 _ => X.length - (intOf v30).toNat)
      case atStart => exact ⟨0, Nat.zero_le _, rfl, ⟨Kd.R_nil _ _ _ _ _⟩, ⟨Below.refl _ _⟩⟩
      case round =>
        obtain ⟨a, ha, rfl, HW, HBX⟩ := hrel
        obtain ⟨Aq, cq, rfl⟩ := Kd.R_slice HW.out
        have hml := HML.out
        by_cases hla : a < X.length
        · have d3 : decide ((a : Int) < (X.length : Int)) = true := decide_eq_true (by omega)
          have a0 : 0 ≤ (a : Int) := by omega
          have a1 : (a : Int) < (X.length : Int) := by omega
          obtain ⟨ak, rfl, g0⟩ := C_strAtR (Kd.C_below (Kd.R_reads' R5.out).2.2 HBX.out) hla
          have HTK := Aside0.mk (show (X.take (a + 1)).filter (fromB from_) = (X.take a).filter (fromB from_) ++ [X[a]].filter (fromB from_) by rw [List.take_succ_eq_append_getElem hla, List.filter_append])
          have HQL := Aside0.mk (show ((X.take a).filter (fromB from_)).length ≤ 1000 by have h1 := List.length_filter_le (fromB from_) (X.take a); rw [List.length_take] at h1; omega)
          generalize X[a] = ka at g0 HTK
          generalize (X.take a).filter (fromB from_) = Q at HW HTK HQL ⊢
          cases hbl : Op.bytesLess ka.toList from_.toList with
          | true =>
            have HN2 := Aside0.mk (show (X.take (a + 1)).filter (fromB from_) = Q by rw [HTK.out, List.filter_cons, if_neg (by unfold fromB; rw [hbl]; decide)]; simp)
            go_wp2_with fail
            go_roundw
            case rel => exact ⟨a + 1, by omega, by go_num, ⟨by rw [HN2.out]; exact HW.out⟩, HBX⟩
            case measure => simp [intOf]; omega
          | false =>
            have HN2 := Aside0.mk (show (X.take (a + 1)).filter (fromB from_) = Q ++ [ka] by rw [HTK.out, List.filter_cons, if_pos (by unfold fromB; rw [hbl]; decide)]; rfl)
            have hql := HQL.out
            go_wp2_with (at_builtin; refine Kd.R_append Kd.string (w0 := w5) w5.heap.size rfl (.tmp 218) (.tmp 223) 38 9 (.string ⟨#[]⟩) 16 rfl Try.underlying38 infoStr rfl (by decide) (by omega) (.slice Aq Q.length cq) Q ka [.string ka] (fun _ => True) (fun _ => False) rfl rfl rfl (fun _ hk => hk.elim) (fun _ _ => trivial) HW.out HBX.out HBX.out.size (by omega) ?_; intro v1 w6 hR hB hg hat; obtain ⟨A6, c6, rfl⟩ := Kd.R_slice hR; have HR6 := Aside0.mk hR; have HB6 := Aside0.mk hB; clear hR hB hg hat)
            go_roundw
            case rel => exact ⟨a + 1, by omega, by go_num, ⟨by rw [HN2.out]; simpa using HR6.out⟩, HB6⟩
            case measure => simp [intOf]; omega
        · have d3 : decide ((a : Int) < (X.length : Int)) = false := decide_eq_false (by omega)
          have haa : a = X.length := by omega
          have HTA := Aside0.mk (show (X.take a).filter (fromB from_) = Y.map (·.1) by rw [haa, List.take_length]; exact HEQ.out)
          have HYL := Aside0.mk (show (Y.map (·.1)).length ≤ 1000 by rw [← HEQ.out]; have h1 := List.length_filter_le (fromB from_) X; omega)
          rw [HTA.out] at HW ⊢
          rw [List.length_map] at HW
          try rw [List.length_map]
          clear haa HTA
          go_wp2_with fail
          refine (strs_calls (Y.map (·.1)) (by have := HYL.out; omega) Ak _ ck Aq _ cq wr _ _ _ _ (Kd.R_below HRK5.out HBX.out) HW.out).mono ?_
          rintro e w6 ⟨rfl, hb6⟩
          have P6 := Aside0.mk (P5.out.below (HBX.out.trans (hb6.mono HBX.out.size)))
          have B6 := Aside0.mk (B5.out.trans ((HBX.out.trans (hb6.mono HBX.out.size)).mono B5.out.size))
          have K6 := Aside0.mk (Kd.R_below HRK5.out (HBX.out.trans (hb6.mono HBX.out.size)))
          have L6 := Aside0.mk (Kd.R_below HRL5.out (HBX.out.trans (hb6.mono HBX.out.size)))
          clear hb6 HRK5 HRL5 P5 B5 HW
          go_wp2_with fail
          go_loopw [31, 32] (fun v31 v32 wx => ∃ c : Nat, c ≤ Y.length ∧ v32 = .int .i64 c ∧ v31 = .bool true ∧ Aside0 (Below w6.heap.size w6 wx)) (fun _ v32 _ => Y.length - (intOf v32).toNat)
          case atStart => exact ⟨0, Nat.zero_le _, rfl, rfl, ⟨Below.refl _ _⟩⟩
          case round =>
            obtain ⟨i, hi, rfl, rfl, HQX⟩ := hrel
            have hyl := HYL.out
            rw [List.length_map] at hyl
            have PW := Aside0.mk (P6.out.below HQX.out)
            have BW := Aside0.mk (B6.out.trans (HQX.out.mono B6.out.size))
            by_cases hli : i < Y.length
            · have d4 : decide ((i : Int) < (Y.length : Int)) = true := decide_eq_true (by omega)
              have i0 : 0 ≤ (i : Int) := by omega
              have i1 : (i : Int) < (Y.length : Int) := by omega
              have HLK := Aside0.mk (lk_ris P6.out.i (show Y[i] ∈ risL T from (List.mem_filter.1 (by rw [HYE.out]; exact List.getElem_mem hli)).1))
              have KC := Aside0.mk (show Kd.C Kd.string w6 Ak (Y.map (·.1)).length (Y.map (·.1)) from (Kd.R_reads' K6.out).2.2)
              have LC := Aside0.mk (show Kd.C kL w6 Al (Y.map (·.2.1)).length (Y.map (·.2.1)) from (Kd.R_reads' L6.out).2.2)
              obtain ⟨ak, eak, g0⟩ := C_strAtR (Kd.C_below KC.out HQX.out) (k := i) (by rw [List.length_map]; exact hli)
              subst eak
              have HLS := Aside0.mk (fun W (hW : Below wr.heap.size wr W) => C_locAtR (Kd.C_below LC.out (HQX.out.trans (hW.mono HQX.out.size))) (k := i) (by rw [List.length_map]; exact hli))
              simp only [List.getElem_map] at g0 HLS
              obtain ⟨al, eal, _⟩ := HLS.out wr (Below.refl _ _)
              subst eal
              generalize Y[i] = s at g0 HLS HLK
              obtain ⟨ka, ⟨y0, y1, y2, y3⟩, is⟩ := s
              simp only at g0 HLS HLK
              have HVV := Aside0.mk (show lkV T ka = (y0, y1, y2, y3) by unfold lkV; rw [HLK.out]; rfl)
              have HLS2 := Aside0.mk (fun W (hW : Below wr.heap.size wr W) => (show W.cell? (al.add (i * 4)) = some (.int .i64 y0) ∧ W.cell? ⟨(al.add (i * 4)).block, (al.add (i * 4)).off + 1, none⟩ = some (.int .i64 y1) ∧ W.cell? ⟨(al.add (i * 4)).block, (al.add (i * 4)).off + 2, none⟩ = some (.int .i64 y2) ∧ W.cell? ⟨(al.add (i * 4)).block, (al.add (i * 4)).off + 3, none⟩ = some (.int .u64 y3) by
                obtain ⟨a', e, h⟩ := HLS.out W hW
                cases e
                exact h))
              go_wp2_with fail
              refine (ref_Get.calls wr A2 r T m k PW.out.f PW.out.i (by omega) ka).mono ?_
              rintro e w8 ⟨rfl, hb8⟩
              rw [HVV.out]
              unfold LocV
              simp only
              have HB8 := Aside0.mk (hb8.alloc hb8.size (.cells #[.int .i64 y0, .int .i64 y1, .int .i64 y2, .int .u64 y3] 31))
              have V8 := Aside0.mk (blk_new w8 (.cells #[.int .i64 y0, .int .i64 y1, .int .i64 y2, .int .u64 y3] 31))
              clear hb8 g0
              go_upto_region 48 with (fail)
              obtain ⟨b33, hb33⟩ : ∃ b, w8.heap.size = b := ⟨_, rfl⟩
              rw [hb33] at V8 ⊢
              clear hb33
              generalize w8.alloc (.cells #[.int .i64 y0, .int .i64 y1, .int .i64 y2, .int .u64 y3] 31) = w9 at HB8 V8 ⊢
              obtain ⟨rb, hq1, hq2, _⟩ := eqLocB (y0, y1, y2, y3) (y0, y1, y2, y3)
              obtain rfl : rb = true := hq1.2 rfl
              simp only at hq2
              clear hq1
              refine region_draw (n := 7) (S := fun W => Below w9.heap.size w9 W) (ds := []) #[false, false, false, false, false, false, false] (by kernel_rfl) rfl rfl (fun W => Below w9.heap.size w9 W) ((Below.refl _ _).drew) (fun W h => h) ?_
              rintro ws hws
              refine with_tabW plays48tab plays48bits (fun HT_ HW_ => ?_)
              have BS := Aside0.mk hws
              clear hws
              refine pure_ (i := 0) (N := some 246) (v := ?_) (a' := ?_) #[true, false, false, false, false, false, false] rfl rfl (any_of HT_.out (by kernel_rfl)) (fun _ _ _ h => h) (Or.inl ⟨by rfl, ?_⟩) ?_ ?_
              rotate_left
              · intro w'
                go_simp
                with_reducible rfl
              rotate_left
              · simp only [Act.put, List.setIfInBounds_toArray, List.set_cons_zero, List.set_cons_succ, i64_w, i32_w]
                rfl
              refine pure_ (i := 1) (N := some 247) (v := ?_) (a' := ?_) #[true, true, false, false, false, false, false] rfl rfl (any_of HT_.out (by kernel_rfl)) (fun _ _ _ h => h) (Or.inl ⟨by rfl, ?_⟩) ?_ ?_
              rotate_left
              · intro w'
                go_simp
                with_reducible rfl
              rotate_left
              · simp only [Act.put, List.setIfInBounds_toArray, List.set_cons_zero, List.set_cons_succ, i64_w, i32_w]
                rfl
              refine pure_ (i := 2) (N := some 248) (v := ?_) (a' := ?_) #[true, true, true, false, false, false, false] rfl rfl (any_of HT_.out (by kernel_rfl)) (fun _ _ _ h => h) (Or.inl ⟨by rfl, ?_⟩) ?_ ?_
              rotate_left
              · intro w'
                go_simp
                with_reducible rfl
              rotate_left
              · simp only [Act.put, List.setIfInBounds_toArray, List.set_cons_zero, List.set_cons_succ, i64_w, i32_w]
                rfl
              refine take_ (i := 3) (N := some 249) (v := ?_) (a' := ?_) #[true, true, true, true, false, false, false] rfl rfl (take_ofW HT_.out HW_.out (by kernel_rfl)) (fun _ _ _ h => h) (Or.inl ⟨by rfl, ?_⟩) BS.out ?_ ?_
              rotate_left
              · intro w' hW
                obtain ⟨e0, e1, e2, e3⟩ := HLS2.out _ (HB8.out.trans (hW.mono HB8.out.size))
                go_simp
                with_reducible rfl
              rotate_left
              · simp only [Act.put, List.setIfInBounds_toArray, List.set_cons_zero, List.set_cons_succ, i64_w, i32_w]
                rfl
              refine take_ (i := 4) (N := some 250) (v := ?_) (a' := ?_) #[true, true, true, true, true, false, false] rfl rfl (take_ofW HT_.out HW_.out (by kernel_rfl)) (fun _ _ _ h => h) (Or.inl ⟨by rfl, ?_⟩) BS.out ?_ ?_
              rotate_left
              · intro w' hW
                obtain ⟨f0, f1, f2, f3, fr⟩ := cells4e (blk_below V8.out hW)
                go_simp
                with_reducible rfl
              rotate_left
              · simp only [Act.put, List.setIfInBounds_toArray, List.set_cons_zero, List.set_cons_succ, i64_w, i32_w]
                rfl
              refine pure_ (i := 5) (N := some 251) (v := ?_) (a' := ?_) #[true, true, true, true, true, true, false] rfl rfl (any_of HT_.out (by kernel_rfl)) (fun _ _ _ h => h) (Or.inl ⟨by rfl, ?_⟩) ?_ ?_
              rotate_left
              · intro w'
                go_simp
                with_reducible rfl
              rotate_left
              · simp only [Act.put, List.setIfInBounds_toArray, List.set_cons_zero, List.set_cons_succ, i64_w, i32_w]
                rfl
              refine pure_ (i := 6) (N := some 31) (v := ?_) (a' := ?_) #[true, true, true, true, true, true, true] rfl rfl (any_of HT_.out (by kernel_rfl)) (fun _ _ _ h => h) (Or.inl ⟨by rfl, ?_⟩) ?_ ?_
              rotate_left
              · intro w'
                go_simp
                with_reducible rfl
              rotate_left
              · simp only [Act.put, List.setIfInBounds_toArray, List.set_cons_zero, List.set_cons_succ, i64_w, i32_w]
                rfl
              refine done_ (done_of HT_.out (by kernel_rfl)) ?_
              go_wp2_with fail
              go_roundw
              case rel => exact ⟨i + 1, by omega, by go_num, rfl, ⟨HQX.out.trans ((HB8.out.trans (BS.out.mono HB8.out.size)).mono HQX.out.size)⟩⟩
              case measure => simp [intOf]; omega
            · have d4 : decide ((i : Int) < (Y.length : Int)) = false := decide_eq_false (by omega)
              go_wp2_with fail
              go_ret
              exact ⟨rfl, BW.out⟩
    have dkn : decide ((k : Int) < (n : Int)) = true := decide_eq_true (by omega)
    obtain ⟨A, A2, T, m, hT, hB⟩ := HR.out
    obtain ⟨ad, rfl, q0, q1, q2, q3, q4, q5⟩ := HC.out k hkn
    have HKS := Aside0.mk (HK.out k hkn)
    generalize ops k = o at q0 q1 q2 q3 q4 q5 HKS
    obtain ⟨x0, x1, ⟨l0, l1, l2, l3⟩⟩ := o
    simp only at q0 q1 q2 q3 q4 q5 HKS
    replace q0 := pw_cell_below hB q0
    replace q1 := pw_cell_below hB q1
    replace q2 := pw_cell_below hB q2
    replace q3 := pw_cell_below hB q3
    replace q4 := pw_cell_below hB q4
    replace q5 := pw_cell_below hB q5
    have p0 : 0 ≤ (k : Int) := by omega
    obtain ⟨wb, hwb⟩ : ∃ wb, wr.alloc (.cells #[.int .i64 x0, .string x1, .int .i64 l0, .int .i64 l1, .int .i64 l2, .int .u64 l3] 33) = wb := ⟨_, rfl⟩
    have PB := Aside0.mk (show Two w.heap.size p r wb A A2 T m k by rw [← hwb]; exact hT.below ((Below.refl _ _).alloc (Nat.le_refl _) _))
    have HBb := Aside0.mk (show Below w.heap.size w wb by rw [← hwb]; exact hB.alloc hB.size _)
    have XB := Aside0.mk (show wb.heap[wr.heap.size]? = some (.cells #[.int .i64 x0, .string x1, .int .i64 l0, .int .i64 l1, .int .i64 l2, .int .u64 l3] 33) by rw [← hwb]; exact blk_new _ _)
    have NXA := Aside0.mk (show ¬ A wr.heap.size from fun h => by have := hT.d.2.1 _ h; omega)
    have NXB := Aside0.mk (show ¬ A2 wr.heap.size from fun h => by have := hT.f.2.1 _ h; omega)
    have HWB := Aside0.mk hwb
    have HKB := Aside0.mk (show k ≤ 250 by omega)
    clear hT hB HR hwb
    go_upto_region 11 with (fail)
    rw [HWB.out]
    obtain ⟨bx, hbx⟩ : ∃ bx, wr.heap.size = bx := ⟨_, rfl⟩
    rw [hbx] at XB NXA NXB ⊢
    clear hbx HWB q0 q1 q2 q3 q4 q5
    obtain ⟨d0, d1, d2, d3, d4, d5, dr⟩ := cells6d XB.out
    go_upto_block 2 with (fail)
    go_cut [11, 12, 13, 14, 15] from 68 to 116 (fun s11 s12 s13 s14 s15 wx => s11 = .bool true ∧ Aside0 (TwoRel w.heap.size p r (k + 1) w wx))
    case first =>
      rcases Bool.eq_false_or_eq_true (x0 == 0) with z0 | z0
      · as_aux_lemma =>
        go_wp2_with fail
        refine (inv_Put wb A p T m k PB.out.d PB.out.i HKB.out x1 HKS.out l0 l1 l2 l3).mono ?_
        rintro e w4 ⟨rfl, T4, m4, A4, hp4, hd4, hf4, hs4, hi4, _⟩
        have HPT := Aside0.mk (putTo_fn PB.out.i hp4)
        have D4 := Aside0.mk hd4
        have F4 := Aside0.mk hf4
        have S4 := Aside0.mk hs4
        have I4 := Aside0.mk hi4
        have R4 := Aside0.mk (PB.out.f.frm hf4 (fun x hx hy => PB.out.n x hy hx))
        have X4 := Aside0.mk (hf4.keeps XB.out NXA.out)
        clear hp4 hd4 hf4 hs4 hi4 d0 d1 d2 d3 d4 d5 dr
        obtain ⟨d0, d1, d2, d3, d4, d5, dr⟩ := cells6d X4.out
        go_wp2_with fail
        refine (ref_Put.calls w4 A2 r T m k R4.out PB.out.i HKB.out x1 HKS.out l0 l1 l2 l3).mono ?_
        rintro e w5 ⟨rfl, A5, h5, f5, s5⟩
        rw [← HPT.out] at h5
        have P5 := Aside0.mk (PB.out.put HBb.out.size D4.out I4.out F4.out S4.out h5 f5 s5)
        clear h5 f5 s5
        go_wp2_with fail
        go_meet
        case rel => exact ⟨by first | rfl | simp, ⟨_, _, _, _, P5.out.1, HBb.out.trans P5.out.2⟩⟩
      rcases Bool.eq_false_or_eq_true (x0 == 1) with z1 | z1
      · as_aux_lemma =>
        go_wp2_with fail
        refine (inv_Put wb A p T m k PB.out.d PB.out.i HKB.out x1 HKS.out l0 l1 l2 l3).mono ?_
        rintro e w4 ⟨rfl, T4, m4, A4, hp4, hd4, hf4, hs4, hi4, _⟩
        have HPT := Aside0.mk (putTo_fn PB.out.i hp4)
        have D4 := Aside0.mk hd4
        have F4 := Aside0.mk hf4
        have S4 := Aside0.mk hs4
        have I4 := Aside0.mk hi4
        have R4 := Aside0.mk (PB.out.f.frm hf4 (fun x hx hy => PB.out.n x hy hx))
        have X4 := Aside0.mk (hf4.keeps XB.out NXA.out)
        clear hp4 hd4 hf4 hs4 hi4 d0 d1 d2 d3 d4 d5 dr
        obtain ⟨d0, d1, d2, d3, d4, d5, dr⟩ := cells6d X4.out
        go_wp2_with fail
        refine (ref_Put.calls w4 A2 r T m k R4.out PB.out.i HKB.out x1 HKS.out l0 l1 l2 l3).mono ?_
        rintro e w5 ⟨rfl, A5, h5, f5, s5⟩
        rw [← HPT.out] at h5
        have P5 := Aside0.mk (PB.out.put HBb.out.size D4.out I4.out F4.out S4.out h5 f5 s5)
        clear h5 f5 s5
        go_wp2_with fail
        go_meet
        case rel => exact ⟨by first | rfl | simp, ⟨_, _, _, _, P5.out.1, HBb.out.trans P5.out.2⟩⟩
      rcases Bool.eq_false_or_eq_true (x0 == 2) with z2 | z2
      · as_aux_lemma =>
        go_wp2_with fail
        refine (inv_Put wb A p T m k PB.out.d PB.out.i HKB.out x1 HKS.out l0 l1 l2 l3).mono ?_
        rintro e w4 ⟨rfl, T4, m4, A4, hp4, hd4, hf4, hs4, hi4, _⟩
        have HPT := Aside0.mk (putTo_fn PB.out.i hp4)
        have D4 := Aside0.mk hd4
        have F4 := Aside0.mk hf4
        have S4 := Aside0.mk hs4
        have I4 := Aside0.mk hi4
        have R4 := Aside0.mk (PB.out.f.frm hf4 (fun x hx hy => PB.out.n x hy hx))
        have X4 := Aside0.mk (hf4.keeps XB.out NXA.out)
        clear hp4 hd4 hf4 hs4 hi4 d0 d1 d2 d3 d4 d5 dr
        obtain ⟨d0, d1, d2, d3, d4, d5, dr⟩ := cells6d X4.out
        go_wp2_with fail
        refine (ref_Put.calls w4 A2 r T m k R4.out PB.out.i HKB.out x1 HKS.out l0 l1 l2 l3).mono ?_
        rintro e w5 ⟨rfl, A5, h5, f5, s5⟩
        rw [← HPT.out] at h5
        have P5 := Aside0.mk (PB.out.put HBb.out.size D4.out I4.out F4.out S4.out h5 f5 s5)
        clear h5 f5 s5
        go_wp2_with fail
        go_meet
        case rel => exact ⟨by first | rfl | simp, ⟨_, _, _, _, P5.out.1, HBb.out.trans P5.out.2⟩⟩
      rcases Bool.eq_false_or_eq_true (x0 == 3) with z3 | z3
      · as_aux_lemma =>
        go_wp2_with fail
        refine (inv_Get wb A p T m k PB.out.d PB.out.i HKB.out x1 HKS.out).mono ?_
        rintro e w4 ⟨rfl, hb4⟩
        have P4 := Aside0.mk (PB.out.below hb4)
        have B4 := Aside0.mk (HBb.out.trans (hb4.mono HBb.out.size))
        have X4 := Aside0.mk (blk_below XB.out hb4)
        clear hb4 d0 d1 d2 d3 d4 d5 dr
        obtain ⟨d0, d1, d2, d3, d4, d5, dr⟩ := cells6d X4.out
        obtain ⟨vv, hvv⟩ : ∃ v, lkV T x1 = v := ⟨_, rfl⟩
        obtain ⟨bb, hbb⟩ : ∃ v, (lk T x1).isSome = v := ⟨_, rfl⟩
        have HVV := Aside0.mk hvv
        have HBV := Aside0.mk hbb
        rw [hvv, hbb]
        clear hvv hbb
        obtain ⟨y0, y1, y2, y3⟩ := vv
        unfold LocV
        simp only
        have X5 := Aside0.mk (blk_alloc X4.out (.cells #[.int .i64 y0, .int .i64 y1, .int .i64 y2, .int .u64 y3] 31))
        have V5 := Aside0.mk (blk_new w4 (.cells #[.int .i64 y0, .int .i64 y1, .int .i64 y2, .int .u64 y3] 31))
        have P5 := Aside0.mk (P4.out.below ((Below.refl _ _).alloc (Nat.le_refl _) (.cells #[.int .i64 y0, .int .i64 y1, .int .i64 y2, .int .u64 y3] 31)))
        have B5 := Aside0.mk (B4.out.alloc B4.out.size (.cells #[.int .i64 y0, .int .i64 y1, .int .i64 y2, .int .u64 y3] 31))
        go_upto_region 21 with (fail)
        obtain ⟨b12, hb12⟩ : ∃ b, w4.heap.size = b := ⟨_, rfl⟩
        rw [hb12] at V5 ⊢
        clear hb12
        generalize w4.alloc (.cells #[.int .i64 y0, .int .i64 y1, .int .i64 y2, .int .u64 y3] 31) = w5 at X5 V5 P5 B5 ⊢
        clear d0 d1 d2 d3 d4 d5 dr
        obtain ⟨d0, d1, d2, d3, d4, d5, dr⟩ := cells6d X5.out
        go_wp2_with fail
        refine (ref_Get.calls w5 A2 r T m k P5.out.f P5.out.i HKB.out x1).mono ?_
        rintro e w6 ⟨rfl, hb6⟩
        rw [HVV.out, HBV.out]
        unfold LocV
        simp only
        have V6 := Aside0.mk (blk_alloc (blk_below V5.out hb6) (.cells #[.int .i64 y0, .int .i64 y1, .int .i64 y2, .int .u64 y3] 31))
        have V7 := Aside0.mk (blk_new w6 (.cells #[.int .i64 y0, .int .i64 y1, .int .i64 y2, .int .u64 y3] 31))
        have P7 := Aside0.mk ((P5.out.below hb6).below ((Below.refl _ _).alloc (Nat.le_refl _) (.cells #[.int .i64 y0, .int .i64 y1, .int .i64 y2, .int .u64 y3] 31)))
        have B7 := Aside0.mk ((B5.out.trans (hb6.mono B5.out.size)).alloc (B5.out.trans (hb6.mono B5.out.size)).size (.cells #[.int .i64 y0, .int .i64 y1, .int .i64 y2, .int .u64 y3] 31))
        clear hb6 d0 d1 d2 d3 d4 d5 dr
        go_upto_region 22 with (fail)
        obtain ⟨b14, hb14⟩ : ∃ b, w6.heap.size = b := ⟨_, rfl⟩
        rw [hb14] at V7 ⊢
        clear hb14
        generalize w6.alloc (.cells #[.int .i64 y0, .int .i64 y1, .int .i64 y2, .int .u64 y3] 31) = w7 at V6 V7 P7 B7 ⊢
        obtain ⟨e0, e1, e2, e3, er⟩ := cells4e V6.out
        obtain ⟨f0, f1, f2, f3, fr⟩ := cells4e V7.out
        obtain ⟨rb, hq1, hq2, _⟩ := eqLocB (y0, y1, y2, y3) (y0, y1, y2, y3)
        obtain rfl : rb = true := hq1.2 rfl
        simp only at hq2
        clear hq1
        go_wp2_with fail
        go_meet
        case rel => exact ⟨by first | rfl | simp, ⟨_, _, _, _, P7.out.le (by omega), B7.out⟩⟩
      go_upto_region 13 with (fail)
      refine region_draw (n := 10) (S := fun W => W.heap[bx]? = some (.cells #[.int .i64 x0, .string x1, .int .i64 l0, .int .i64 l1, .int .i64 l2, .int .u64 l3] 33)) (ds := []) #[false, false, false, false, false, false, false, false, false, false] (by kernel_rfl) rfl rfl (fun W => (W.heap[bx]? = some (.cells #[.int .i64 x0, .string x1, .int .i64 l0, .int .i64 l1, .int .i64 l2, .int .u64 l3] 33)) ∧ Two w.heap.size p r W A A2 T m k ∧ Below w.heap.size w W) ⟨blk_drew XB.out, PB.out.below (Below.refl _ _).drew, HBb.out.drew⟩ (fun W h => h.1) ?_
      rintro w4 ⟨k4, p4, b4⟩
      refine with_tabW plays13tab plays13bits (fun HT_ HW_ => ?_)
      have K4 := Aside0.mk k4
      have P4 := Aside0.mk p4
      have B4 := Aside0.mk b4
      clear k4 p4 b4 d0 d1 d2 d3 d4 d5 dr
      refine pure_ (i := 0) (N := some 68) (v := ?_) (a' := ?_) #[true, false, false, false, false, false, false, false, false, false] rfl rfl (any_of HT_.out (by kernel_rfl)) (fun _ _ _ h => h) (Or.inl ⟨by rfl, ?_⟩) ?_ ?_
      rotate_left
      · intro w'
        go_simp
        with_reducible rfl
      rotate_left
      · simp only [Act.put, List.setIfInBounds_toArray, List.set_cons_zero, List.set_cons_succ, i64_w, i32_w]
        rfl
      refine pure_ (i := 1) (N := some 69) (v := ?_) (a' := ?_) #[true, true, false, false, false, false, false, false, false, false] rfl rfl (any_of HT_.out (by kernel_rfl)) (fun _ _ _ h => h) (Or.inl ⟨by rfl, ?_⟩) ?_ ?_
      rotate_left
      · intro w'
        go_simp
        with_reducible rfl
      rotate_left
      · simp only [Act.put, List.setIfInBounds_toArray, List.set_cons_zero, List.set_cons_succ, i64_w, i32_w]
        rfl
      refine pure_ (i := 4) (N := some 72) (v := ?_) (a' := ?_) #[true, true, false, false, true, false, false, false, false, false] rfl rfl (any_of HT_.out (by kernel_rfl)) (fun _ _ _ h => h) (Or.inl ⟨by rfl, ?_⟩) ?_ ?_
      rotate_left
      · intro w'
        go_simp
        with_reducible rfl
      rotate_left
      · simp only [Act.put, List.setIfInBounds_toArray, List.set_cons_zero, List.set_cons_succ, i64_w, i32_w]
        rfl
      refine pure_ (i := 5) (N := some 73) (v := ?_) (a' := ?_) #[true, true, false, false, true, true, false, false, false, false] rfl rfl (any_of HT_.out (by kernel_rfl)) (fun _ _ _ h => h) (Or.inl ⟨by rfl, ?_⟩) ?_ ?_
      rotate_left
      · intro w'
        go_simp
        with_reducible rfl
      rotate_left
      · simp only [Act.put, List.setIfInBounds_toArray, List.set_cons_zero, List.set_cons_succ, i64_w, i32_w]
        rfl
      refine take_ (i := 2) (N := some 70) (v := ?_) (a' := ?_) #[true, true, true, false, true, true, false, false, false, false] rfl rfl (take_ofW HT_.out HW_.out (by kernel_rfl)) (fun _ _ _ h => h) (Or.inl ⟨by rfl, ?_⟩) K4.out ?_ ?_
      rotate_left
      · intro w' hW
        obtain ⟨d0, d1, d2, d3, d4, d5, dr⟩ := cells6d hW
        go_simp
        with_reducible rfl
      rotate_left
      · simp only [Act.put, List.setIfInBounds_toArray, List.set_cons_zero, List.set_cons_succ, i64_w, i32_w]
        rfl
      refine take_ (i := 6) (N := some 74) (v := ?_) (a' := ?_) #[true, true, true, false, true, true, true, false, false, false] rfl rfl (take_ofW HT_.out HW_.out (by kernel_rfl)) (fun _ _ _ h => h) (Or.inl ⟨by rfl, ?_⟩) K4.out ?_ ?_
      rotate_left
      · intro w' hW
        obtain ⟨d0, d1, d2, d3, d4, d5, dr⟩ := cells6d hW
        go_simp
        with_reducible rfl
      rotate_left
      · simp only [Act.put, List.setIfInBounds_toArray, List.set_cons_zero, List.set_cons_succ, i64_w, i32_w]
        rfl
      refine one_ (i := 3) (N := some 71) #[true, true, true, true, true, true, true, false, false, false] rfl rfl (one_of HT_.out (by kernel_rfl)) (by decide) (fun K hK => ?_)
      refine goes_ Try.func14 (by kernel_rfl) rfl #[.pointer (some ⟨p, 0, none⟩), .string x1] (by rfl) rfl rfl (by (try simp only [List.map_toArray, List.map_cons, List.map_nil]); first | done | rfl) ?_
      refine (inv_Delete w4 A p T m k P4.out.d P4.out.i HKB.out x1 HKS.out).mono ?_
      rintro e w5 ⟨rfl, f5, T5, m5, h5, i5, _, t5⟩
      refine ⟨_, rfl, ?_⟩
      have K5 := Aside0.mk (f5.keeps K4.out NXA.out)
      have H5 := Aside0.mk h5
      have I5 := Aside0.mk i5
      have T5H := Aside0.mk t5
      have R5 := Aside0.mk (P4.out.f.frm f5 (fun x hx hy => P4.out.n x hy hx))
      have F5 := Aside0.mk f5
      clear h5 f5 i5 t5
      refine hK.out _ _ K5.out (fun _ => ?_)
      clear hK K
      refine norm_ (a' := ?_) ?_ ?_
      rotate_left
      · show Act.put _ (some 71) _ = _
        simp only [Act.put, List.setIfInBounds_toArray, List.set_cons_zero, List.set_cons_succ, i64_w, i32_w]
        rfl
      refine one_ (i := 7) (N := some 75) #[true, true, true, true, true, true, true, true, false, false] rfl rfl (one_of HT_.out (by kernel_rfl)) (by decide) (fun K hK => ?_)
      refine goes_ Try.func15 (by kernel_rfl) rfl #[.pointer (some ⟨r, 0, none⟩), .string x1] (by rfl) rfl rfl (by (try simp only [List.map_toArray, List.map_cons, List.map_nil]); first | done | rfl) ?_
      refine (ref_Delete.calls w5 A2 r T m k R5.out P4.out.i HKB.out x1 HKS.out).mono ?_
      rintro e w6 ⟨rfl, f6, t6⟩
      refine ⟨_, rfl, ?_⟩
      have K6 := Aside0.mk (f6.keeps K5.out NXB.out)
      have P6 := Aside0.mk (two_del P4.out B4.out.size H5.out I5.out F5.out T5H.out f6 t6)
      clear f6 t6
      refine hK.out _ _ K6.out (fun _ => ?_)
      clear hK K
      refine norm_ (a' := ?_) ?_ ?_
      rotate_left
      · show Act.put _ (some 75) _ = _
        simp only [Act.put, List.setIfInBounds_toArray, List.set_cons_zero, List.set_cons_succ, i64_w, i32_w]
        rfl
      refine pure_ (i := 8) (N := some 76) (v := ?_) (a' := ?_) #[true, true, true, true, true, true, true, true, true, false] rfl rfl (any_of HT_.out (by kernel_rfl)) (fun _ _ _ h => h) (Or.inl ⟨by rfl, ?_⟩) ?_ ?_
      rotate_left
      · intro w'
        go_simp
        with_reducible rfl
      rotate_left
      · simp only [Act.put, List.setIfInBounds_toArray, List.set_cons_zero, List.set_cons_succ, i64_w, i32_w]
        rfl
      refine pure_ (i := 9) (N := some 11) (v := ?_) (a' := ?_) #[true, true, true, true, true, true, true, true, true, true] rfl rfl (any_of HT_.out (by kernel_rfl)) (fun _ _ _ h => h) (Or.inl ⟨by rfl, ?_⟩) ?_ ?_
      rotate_left
      · intro w'
        go_simp
        with_reducible rfl
      rotate_left
      · simp only [Act.put, List.setIfInBounds_toArray, List.set_cons_zero, List.set_cons_succ, i64_w, i32_w]
        rfl
      refine done_ (done_of HT_.out (by kernel_rfl)) ?_
      go_wp2_with fail
      go_meet
      case rel => exact ⟨by first | rfl | simp, ⟨_, _, _, _, P6.out.1, B4.out.trans P6.out.2⟩⟩
    case rest =>
     as_aux_lemma =>
      obtain ⟨rfl, HP⟩ := hcut
      obtain ⟨A', A2', T', m', hT, hB⟩ := HP.out
      have PC := Aside0.mk hT
      have BC := Aside0.mk hB
      have HSM := Aside0.mk (hT.i.small (show k + 1 ≤ 250 by omega))
      have HP1 := Aside0.mk hT.i.pos
      have HKL := Aside0.mk (keysR_length hT.i)
      have HKM := Aside0.mk (fun x (hx : x ∈ keysR T') => (show x.size ≤ 100 by
        obtain ⟨h1, h2, h3⟩ := slotOf_key hT.i hx
        rw [← h1]
        exact hT.i.keys _ h3))
      clear hT hB HP PB HBb XB NXA NXB d0 d1 d2 d3 d4 d5 dr
      go_wp2_with fail
      refine (ref_Keys.calls wc A2' r T' PC.out.f HSM.out HP1.out).mono ?_
      rintro e w8 ⟨Ak, ck, rfl, hR, hb8⟩
      have P8 := Aside0.mk (PC.out.below hb8)
      have B8 := Aside0.mk (BC.out.trans (hb8.mono BC.out.size))
      have R8 := Aside0.mk hR
      clear hR hb8 PC BC
      generalize keysR T' = X at HKL HKM R8 ⊢
      obtain rfl := HKL.out
      obtain ⟨gg, cg, h3, h4⟩ := P8.out.f.form HP1.out
      have H3 := Aside0.mk h3
      clear h3 h4 HKL
      go_upto_region 24 with (fail)
      refine region_draw (n := 19) (S := fun W => Below w8.heap.size w8 W) (ds := []) #[false, false, false, false, false, false, false, false, false, false, false, false, false, false, false, false, false, false, false] (by kernel_rfl) rfl rfl (fun W => Below w8.heap.size w8 W) ((Below.refl _ _).drew) (fun W h => h) ?_
      rintro ws hws
      refine with_tabW plays24tab plays24bits (fun HT_ HW_ => ?_)
      have BS := Aside0.mk hws
      clear hws
      refine pure_ (i := 0) (N := some 119) (v := ?_) (a' := ?_) #[true, false, false, false, false, false, false, false, false, false, false, false, false, false, false, false, false, false, false] rfl rfl (any_of HT_.out (by kernel_rfl)) (fun _ _ _ h => h) (Or.inl ⟨by rfl, ?_⟩) ?_ ?_
      rotate_left
      · intro w'
        go_simp
        with_reducible rfl
      rotate_left
      · simp only [Act.put, List.setIfInBounds_toArray, List.set_cons_zero, List.set_cons_succ, i64_w, i32_w]
        rfl
      refine pure_ (i := 1) (N := some 120) (v := ?_) (a' := ?_) #[true, true, false, false, false, false, false, false, false, false, false, false, false, false, false, false, false, false, false] rfl rfl (any_of HT_.out (by kernel_rfl)) (fun _ _ _ h => h) (Or.inl ⟨by rfl, ?_⟩) ?_ ?_
      rotate_left
      · intro w'
        go_simp
        with_reducible rfl
      rotate_left
      · simp only [Act.put, List.setIfInBounds_toArray, List.set_cons_zero, List.set_cons_succ, i64_w, i32_w]
        rfl
      refine pure_ (i := 2) (N := some 121) (v := ?_) (a' := ?_) #[true, true, true, false, false, false, false, false, false, false, false, false, false, false, false, false, false, false, false] rfl rfl (any_of HT_.out (by kernel_rfl)) (fun _ _ _ h => h) (Or.inl ⟨by rfl, ?_⟩) ?_ ?_
      rotate_left
      · intro w'
        go_simp
        with_reducible rfl
      rotate_left
      · simp only [Act.put, List.setIfInBounds_toArray, List.set_cons_zero, List.set_cons_succ, i64_w, i32_w]
        rfl
      refine pure_ (i := 3) (N := some 122) (v := ?_) (a' := ?_) #[true, true, true, true, false, false, false, false, false, false, false, false, false, false, false, false, false, false, false] rfl rfl (any_of HT_.out (by kernel_rfl)) (fun _ _ _ h => h) (Or.inl ⟨by rfl, ?_⟩) ?_ ?_
      rotate_left
      · intro w'
        go_simp
        with_reducible rfl
      rotate_left
      · simp only [Act.put, List.setIfInBounds_toArray, List.set_cons_zero, List.set_cons_succ, i64_w, i32_w]
        rfl
      refine pure_ (i := 5) (N := some 124) (v := ?_) (a' := ?_) #[true, true, true, true, false, true, false, false, false, false, false, false, false, false, false, false, false, false, false] rfl rfl (any_of HT_.out (by kernel_rfl)) (fun _ _ _ h => h) (Or.inl ⟨by rfl, ?_⟩) ?_ ?_
      rotate_left
      · intro w'
        go_simp
        with_reducible rfl
      rotate_left
      · simp only [Act.put, List.setIfInBounds_toArray, List.set_cons_zero, List.set_cons_succ, i64_w, i32_w]
        rfl
      refine pure_ (i := 6) (N := some 125) (v := ?_) (a' := ?_) #[true, true, true, true, false, true, true, false, false, false, false, false, false, false, false, false, false, false, false] rfl rfl (any_of HT_.out (by kernel_rfl)) (fun _ _ _ h => h) (Or.inl ⟨by rfl, ?_⟩) ?_ ?_
      rotate_left
      · intro w'
        go_simp
        with_reducible rfl
      rotate_left
      · simp only [Act.put, List.setIfInBounds_toArray, List.set_cons_zero, List.set_cons_succ, i64_w, i32_w]
        rfl
      refine one_ (i := 4) (N := some 123) #[true, true, true, true, true, true, true, false, false, false, false, false, false, false, false, false, false, false, false] rfl rfl (one_of HT_.out (by kernel_rfl)) (by decide) (fun K hK => ?_)
      refine goes_ Try.func17 (by kernel_rfl) rfl #[.pointer (some ⟨p, 0, none⟩)] (by rfl) rfl rfl (by (try simp only [List.map_toArray, List.map_cons, List.map_nil]); first | done | rfl) ?_
      refine (dir_Len.calls ws A' p T' X.length (P8.out.below BS.out).d).mono ?_
      rintro e w9 ⟨rfl, rfl⟩
      refine ⟨_, rfl, ?_⟩
      skip
      refine hK.out _ _ BS.out (fun _ => ?_)
      clear hK K
      refine norm_ (a' := ?_) ?_ ?_
      rotate_left
      · show Act.put _ (some 123) _ = _
        simp only [Act.put, List.setIfInBounds_toArray, List.set_cons_zero, List.set_cons_succ, i64_w, i32_w]
        rfl
      refine pure_ (i := 7) (N := some 126) (v := ?_) (a' := ?_) #[true, true, true, true, true, true, true, true, false, false, false, false, false, false, false, false, false, false, false] rfl rfl (any_of HT_.out (by kernel_rfl)) (fun _ _ _ h => h) (Or.inl ⟨by rfl, ?_⟩) ?_ ?_
      rotate_left
      · intro w'
        go_simp
        with_reducible rfl
      rotate_left
      · simp only [Act.put, List.setIfInBounds_toArray, List.set_cons_zero, List.set_cons_succ, i64_w, i32_w]
        rfl
      refine pure_ (i := 8) (N := some 127) (v := ?_) (a' := ?_) #[true, true, true, true, true, true, true, true, true, false, false, false, false, false, false, false, false, false, false] rfl rfl (any_of HT_.out (by kernel_rfl)) (fun _ _ _ h => h) (Or.inl ⟨by rfl, ?_⟩) ?_ ?_
      rotate_left
      · intro w'
        go_simp
        with_reducible rfl
      rotate_left
      · simp only [Act.put, List.setIfInBounds_toArray, List.set_cons_zero, List.set_cons_succ, i64_w, i32_w]
        rfl
      refine pure_ (i := 9) (N := some 128) (v := ?_) (a' := ?_) #[true, true, true, true, true, true, true, true, true, true, false, false, false, false, false, false, false, false, false] rfl rfl (any_of HT_.out (by kernel_rfl)) (fun _ _ _ h => h) (Or.inl ⟨by rfl, ?_⟩) ?_ ?_
      rotate_left
      · intro w'
        go_simp
        with_reducible rfl
      rotate_left
      · simp only [Act.put, List.setIfInBounds_toArray, List.set_cons_zero, List.set_cons_succ, i64_w, i32_w]
        rfl
      refine pure_ (i := 10) (N := some 129) (v := ?_) (a' := ?_) #[true, true, true, true, true, true, true, true, true, true, true, false, false, false, false, false, false, false, false] rfl rfl (any_of HT_.out (by kernel_rfl)) (fun _ _ _ h => h) (Or.inl ⟨by rfl, ?_⟩) ?_ ?_
      rotate_left
      · intro w'
        go_simp
        with_reducible rfl
      rotate_left
      · simp only [Act.put, List.setIfInBounds_toArray, List.set_cons_zero, List.set_cons_succ, i64_w, i32_w]
        rfl
      refine pure_ (i := 12) (N := some 131) (v := ?_) (a' := ?_) #[true, true, true, true, true, true, true, true, true, true, true, false, true, false, false, false, false, false, false] rfl rfl (any_of HT_.out (by kernel_rfl)) (fun _ _ _ h => h) (Or.inl ⟨by rfl, ?_⟩) ?_ ?_
      rotate_left
      · intro w'
        go_simp
        with_reducible rfl
      rotate_left
      · simp only [Act.put, List.setIfInBounds_toArray, List.set_cons_zero, List.set_cons_succ, i64_w, i32_w]
        rfl
      refine pure_ (i := 13) (N := some 132) (v := ?_) (a' := ?_) #[true, true, true, true, true, true, true, true, true, true, true, false, true, true, false, false, false, false, false] rfl rfl (any_of HT_.out (by kernel_rfl)) (fun _ _ _ h => h) (Or.inl ⟨by rfl, ?_⟩) ?_ ?_
      rotate_left
      · intro w'
        go_simp
        with_reducible rfl
      rotate_left
      · simp only [Act.put, List.setIfInBounds_toArray, List.set_cons_zero, List.set_cons_succ, i64_w, i32_w]
        rfl
      refine pure_ (i := 14) (N := some 133) (v := ?_) (a' := ?_) #[true, true, true, true, true, true, true, true, true, true, true, false, true, true, true, false, false, false, false] rfl rfl (any_of HT_.out (by kernel_rfl)) (fun _ _ _ h => h) (Or.inl ⟨by rfl, ?_⟩) ?_ ?_
      rotate_left
      · intro w'
        go_simp
        with_reducible rfl
      rotate_left
      · simp only [Act.put, List.setIfInBounds_toArray, List.set_cons_zero, List.set_cons_succ, i64_w, i32_w]
        rfl
      refine take_ (i := 15) (N := some 134) (v := ?_) (a' := ?_) #[true, true, true, true, true, true, true, true, true, true, true, false, true, true, true, true, false, false, false] rfl rfl (take_ofW HT_.out HW_.out (by kernel_rfl)) (fun _ _ _ h => h) (Or.inl ⟨by rfl, ?_⟩) BS.out ?_ ?_
      rotate_left
      · intro w' hW
        obtain ⟨d0, dr⟩ := cells1d (blk_below H3.out hW)
        go_simp
        with_reducible rfl
      rotate_left
      · simp only [Act.put, List.setIfInBounds_toArray, List.set_cons_zero, List.set_cons_succ, i64_w, i32_w]
        rfl
      refine pure_ (i := 16) (N := some 135) (v := ?_) (a' := ?_) #[true, true, true, true, true, true, true, true, true, true, true, false, true, true, true, true, true, false, false] rfl rfl (any_of HT_.out (by kernel_rfl)) (fun _ _ _ h => h) (Or.inl ⟨by rfl, ?_⟩) ?_ ?_
      rotate_left
      · intro w'
        go_simp
        with_reducible rfl
      rotate_left
      · simp only [Act.put, List.setIfInBounds_toArray, List.set_cons_zero, List.set_cons_succ, i64_w, i32_w]
        rfl
      refine one_ (i := 11) (N := some 130) #[true, true, true, true, true, true, true, true, true, true, true, true, true, true, true, true, true, false, false] rfl rfl (one_of HT_.out (by kernel_rfl)) (by decide) (fun K hK => ?_)
      refine goes_ Try.func18 (by kernel_rfl) rfl #[.pointer (some ⟨p, 0, none⟩)] (by rfl) rfl rfl (by (try simp only [List.map_toArray, List.map_cons, List.map_nil]); first | done | rfl) ?_
      refine (dir_Cap.calls ws A' p T' X.length (P8.out.below BS.out).d).mono ?_
      rintro e w9 ⟨rfl, rfl⟩
      refine ⟨_, rfl, ?_⟩
      skip
      refine hK.out _ _ BS.out (fun _ => ?_)
      clear hK K
      refine norm_ (a' := ?_) ?_ ?_
      rotate_left
      · show Act.put _ (some 130) _ = _
        simp only [Act.put, List.setIfInBounds_toArray, List.set_cons_zero, List.set_cons_succ, i64_w, i32_w]
        rfl
      refine pure_ (i := 17) (N := some 136) (v := ?_) (a' := ?_) #[true, true, true, true, true, true, true, true, true, true, true, true, true, true, true, true, true, true, false] rfl rfl (any_of HT_.out (by kernel_rfl)) (fun _ _ _ h => h) (Or.inl ⟨by rfl, ?_⟩) ?_ ?_
      rotate_left
      · intro w'
        go_simp
        with_reducible rfl
      rotate_left
      · simp only [Act.put, List.setIfInBounds_toArray, List.set_cons_zero, List.set_cons_succ, i64_w, i32_w]
        rfl
      refine pure_ (i := 18) (N := some 137) (v := ?_) (a' := ?_) #[true, true, true, true, true, true, true, true, true, true, true, true, true, true, true, true, true, true, true] rfl rfl (any_of HT_.out (by kernel_rfl)) (fun _ _ _ h => h) (Or.inl ⟨by rfl, ?_⟩) ?_ ?_
      rotate_left
      · intro w'
        go_simp
        with_reducible rfl
      rotate_left
      · simp only [Act.put, List.setIfInBounds_toArray, List.set_cons_zero, List.set_cons_succ, i64_w, i32_w]
        rfl
      refine done_ (done_of HT_.out (by kernel_rfl)) ?_
      have P9 := Aside0.mk (P8.out.below BS.out)
      have B9 := Aside0.mk (B8.out.trans (BS.out.mono B8.out.size))
      have R9 := Aside0.mk (Kd.R_below R8.out BS.out)
      clear P8 B8 R8 H3 BS
      go_wp2_with fail
      go_loopw [17] (fun v17 wx => ∃ a : Nat, a ≤ X.length ∧ v17 = .int .i64 a ∧ Aside0 (Below ws.heap.size ws wx)) (fun v17 _ => X.length - (intOf v17).toNat)
      case atStart => exact ⟨0, Nat.zero_le _, rfl, ⟨Below.refl _ _⟩⟩
      case round =>
        obtain ⟨a, ha, rfl, HBX⟩ := hrel
        have PA := Aside0.mk (P9.out.below HBX.out)
        have BA := Aside0.mk (B9.out.trans (HBX.out.mono B9.out.size))
        by_cases hla : a < X.length
        · have d3 : decide ((a : Int) < (X.length : Int)) = true := decide_eq_true (by omega)
          have a0 : 0 ≤ (a : Int) := by omega
          have a1 : (a : Int) < (X.length : Int) := by omega
          have hxl : X.length ≤ 1000000 := by have h1 := PA.out.i.half; have h2 := HSM.out; omega
          have HST := Aside0.mk (fun W (hW : Below wr.heap.size wr W) => C_strAtR (Kd.C_below (Kd.R_reads' R9.out).2.2 (HBX.out.trans (hW.mono HBX.out.size))) hla)
          obtain ⟨ak, rfl, g0⟩ := HST.out wr (Below.refl _ _)
          have HST2 := Aside0.mk (fun W (hW : Below wr.heap.size wr W) => (show W.cell? (ak.add a) = some (.string X[a]) by
            obtain ⟨ad', e, h⟩ := HST.out W hW
            cases e
            exact h))
          have HKS2 := Aside0.mk (HKM.out X[a] (List.getElem_mem hla))
          clear HST
          generalize X[a] = ka at g0 HST2 HKS2
          go_wp2_with fail
          refine (inv_Far wr A' p T' X.length (k + 1) PA.out.d PA.out.i (by omega) ka HKS2.out).mono ?_
          rintro e w10 ⟨rfl, hb10⟩
          have HB10 := Aside0.mk hb10
          have P10 := Aside0.mk (PA.out.below hb10)
          clear hb10 g0
          have g0 := HST2.out w10 HB10.out
          obtain ⟨ff, hff⟩ : ∃ v, farN T' ka = v := ⟨_, rfl⟩
          obtain ⟨bb, hbb⟩ : ∃ v, (lk T' ka).isSome = v := ⟨_, rfl⟩
          have HFF := Aside0.mk hff
          have HBB := Aside0.mk hbb
          rw [hff, hbb]
          clear hff hbb
          go_wp2_with fail
          refine (ref_Far.calls w10 A2' r T' X.length (k + 1) P10.out.f P10.out.i (by omega) ka HKS2.out).mono ?_
          rintro e w11 ⟨rfl, hb11⟩
          rw [HFF.out, HBB.out]
          have HB11 := Aside0.mk (HB10.out.trans (hb11.mono HB10.out.size))
          have P11 := Aside0.mk (P10.out.below hb11)
          clear hb11 g0
          have g0 := HST2.out w11 HB11.out
          go_wp2_with fail
          refine (inv_Get w11 A' p T' X.length (k + 1) P11.out.d P11.out.i (by omega) ka HKS2.out).mono ?_
          rintro e w12 ⟨rfl, hb12⟩
          rw [HBB.out]
          obtain ⟨vv, hvv⟩ : ∃ v, lkV T' ka = v := ⟨_, rfl⟩
          have HVV := Aside0.mk hvv
          rw [hvv]
          clear hvv
          obtain ⟨y0, y1, y2, y3⟩ := vv
          unfold LocV
          simp only
          have HB12 := Aside0.mk ((HB11.out.trans (hb12.mono HB11.out.size)).alloc (HB11.out.trans (hb12.mono HB11.out.size)).size (.cells #[.int .i64 y0, .int .i64 y1, .int .i64 y2, .int .u64 y3] 31))
          have V12 := Aside0.mk (blk_new w12 (.cells #[.int .i64 y0, .int .i64 y1, .int .i64 y2, .int .u64 y3] 31))
          have P12 := Aside0.mk ((P11.out.below hb12).below ((Below.refl _ _).alloc (Nat.le_refl _) (.cells #[.int .i64 y0, .int .i64 y1, .int .i64 y2, .int .u64 y3] 31)))
          clear hb12 g0
          go_upto_region 32 with (fail)
          obtain ⟨b22, hb22⟩ : ∃ b, w12.heap.size = b := ⟨_, rfl⟩
          rw [hb22] at V12 ⊢
          clear hb22
          generalize w12.alloc (.cells #[.int .i64 y0, .int .i64 y1, .int .i64 y2, .int .u64 y3] 31) = w13 at HB12 V12 P12 ⊢
          have g0 := HST2.out w13 HB12.out
          go_wp2_with fail
          refine (ref_Get.calls w13 A2' r T' X.length (k + 1) P12.out.f P12.out.i (by omega) ka).mono ?_
          rintro e w14 ⟨rfl, hb14⟩
          rw [HVV.out, HBB.out]
          unfold LocV
          simp only
          have V14 := Aside0.mk (blk_alloc (blk_below V12.out hb14) (.cells #[.int .i64 y0, .int .i64 y1, .int .i64 y2, .int .u64 y3] 31))
          have V15 := Aside0.mk (blk_new w14 (.cells #[.int .i64 y0, .int .i64 y1, .int .i64 y2, .int .u64 y3] 31))
          have HB15 := Aside0.mk ((HB12.out.trans (hb14.mono HB12.out.size)).alloc (HB12.out.trans (hb14.mono HB12.out.size)).size (.cells #[.int .i64 y0, .int .i64 y1, .int .i64 y2, .int .u64 y3] 31))
          clear hb14 g0
          go_upto_region 33 with (fail)
          obtain ⟨b24, hb24⟩ : ∃ b, w14.heap.size = b := ⟨_, rfl⟩
          rw [hb24] at V15 ⊢
          clear hb24
          generalize w14.alloc (.cells #[.int .i64 y0, .int .i64 y1, .int .i64 y2, .int .u64 y3] 31) = w15 at V14 V15 HB15 ⊢
          obtain ⟨e0, e1, e2, e3, er⟩ := cells4e V14.out
          obtain ⟨f0, f1, f2, f3, fr⟩ := cells4e V15.out
          obtain ⟨rb, hq1, _, hq2⟩ := eqLocB (y0, y1, y2, y3) (y0, y1, y2, y3)
          obtain rfl : rb = true := hq1.2 rfl
          simp only [Bool.not_true] at hq2
          clear hq1
          go_wp2_with fail
          go_roundw
          case rel => exact ⟨a + 1, by omega, by go_num, ⟨HBX.out.trans (HB15.out.mono HBX.out.size)⟩⟩
          case measure => simp [intOf]; omega
        · have d3 : decide ((a : Int) < (X.length : Int)) = false := decide_eq_false (by omega)
          go_wp2_with fail
          go_roundw
          case rel => exact ⟨k + 1, by omega, by go_num, ⟨⟨_, _, _, _, PA.out, BA.out⟩⟩⟩
          case measure => simp [intOf]; omega
end Go.Proofs.Ytcpjfpbfopkngaa.Thw
