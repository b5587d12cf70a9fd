/- Several texts of mine in one (Ev13m). -/
import Derived.Test.YtlnbekaldemebaaGreatDoorMQ3
/-! ## Layer 13 (publish): the law PublishBack. -/
namespace Go.Proofs.YtlnbekaldemebaaGreatDoor.Thw
open Go Go.RowKit Go.Proofs.YtlnbekaldemebaaGreatDoor.Print Go.Proofs.YtlnbekaldemebaaGreatDoorW.PrintWords Go.Proofs.YtlnbekaldemebaaGreatDoorW.PrintLast Go.Proofs.YtlnbekaldemebaaGreatDoorW.PrintMore
set_option linter.unusedVariables false
set_option linter.unusedSimpArgs false
theorem row_at {α : Type} {d : Kd α} {w : World} {A : Option Addr} {n : Nat} {e : Nat} {ls : List (List α)} (h : (Kd.slice e d).C w A n ls) (i : Nat) (xs : List α) (hi : ls[i]? = some xs) :
    ∃ ad A' c', A = some ad ∧ w.cell? (ad.add i) = some (.slice A' xs.length c') ∧ xs.length ≤ c' ∧ d.C w A' xs.length xs := by
  have hlt := (List.getElem?_eq_some_iff.1 hi).1
  obtain ⟨ad, rfl, hc⟩ := h.2.2 (by have := h.1; omega)
  obtain ⟨c, hl, ⟨A', c', rfl, hle, hC⟩, hcell⟩ := hc i xs hi
  refine ⟨ad, A', c', rfl, ?_, hle, hC⟩
  have := hcell 0 _ rfl
  have e1 : i * (Kd.slice e d).sz + 0 = i := by show i * 1 + 0 = i; omega
  rwa [e1] at this
theorem RLaw.rst {w V : World} {T : Nat → Prop} {r : Nat} {x : Rem} (h : RLaw w r x V T) : RSt V T r x V T := RSt.refl h.at_ h.lt
theorem ints_nil (w : World) : (Kd.int .i64).C w none 0 [] := ⟨rfl, by simp, fun h => absurd h (by omega)⟩
/-- Objects are no longer than n. -/
def FitV (n : Nat) (m : Fls) : Prop := ∀ p ∈ m, p.2.size ≤ n
theorem FitV.put {n : Nat} {m : Fls} (h : FitV n m) {k b : ByteArray} (hb : b.size ≤ n) : FitV n (Thw.put m k b) := by
  intro p hp
  unfold Thw.put at hp
  split at hp
  · obtain ⟨q, hq, rfl⟩ := List.mem_map.1 hp
    split
    · exact hb
    · exact h q hq
  · rcases List.mem_append.1 hp with hp | hp
    · exact h p hp
    · rw [List.mem_singleton.1 hp]; exact hb
theorem FitV.look {n : Nat} {m : Fls} (h : FitV n m) : ∀ k b, look m k = some b → b.size ≤ n := fun k b hb => by
  unfold Thw.look at hb
  cases hf : m.find? fun p => decide (p.1 = k) with
  | none => rw [hf] at hb; cases hb
  | some p =>
    rw [hf] at hb
    cases hb
    exact h p (List.mem_of_find?_eq_some hf)
theorem rput_m (st : Rem) (k b : ByteArray) : (st.put k b).1.m = st.m ∨ (st.put k b).1.m = Thw.put st.m k b := by
  unfold Rem.put
  split
  · exact Or.inl rfl
  · exact Or.inr rfl
theorem FitV.up {n : Nat} {st : Rem} {i : Int} {b : ByteArray} (h : FitV n st.m) (hb : b.size ≤ n) : FitV n (pubUpload st i b).1.m := by
  have h1 : FitV n (st.put (obj i) b).1.m := by
    rcases rput_m st (obj i) b with e | e
    · rw [e]; exact h
    · rw [e]; exact h.put hb
  unfold pubUpload
  split
  · exact h
  · split
    · show FitV n ((st.put (obj i) b).1.get (obj i)).1.m; rw [get_m]; exact h1
    · split
      · show FitV n ((st.put (obj i) b).1.get (obj i)).1.m; rw [get_m]; exact h1
      · show FitV n ((st.put (obj i) b).1.get (obj i)).1.m; rw [get_m]; exact h1
theorem up_ok {st : Rem} {n : Int} {b : ByteArray} (h : (pubUpload st n b).2.2 = 0) : (pubUpload st n b).2.1 = sgOf n b ∧ look (pubUpload st n b).1.m (obj n) = some b := by
  unfold pubUpload at *
  split at h
  · cases h
  · rename_i h1
    rw [if_neg h1]
    split at h
    · rename_i h2; exact absurd h h2
    · rename_i h2
      rw [if_neg h2]
      split at h
      · cases h
      · rename_i h3
        rw [if_neg h3]
        refine ⟨rfl, ?_⟩
        show look ((st.put (obj n) b).1.get (obj n)).1.m (obj n) = some b
        rw [get_m]
        simp only [ne_eq, Decidable.not_not] at h2 h3
        unfold Rem.get at h2 h3
        split at h2
        · cases h2
        · rename_i hf
          rw [if_neg hf] at h3
          cases hl : look (st.put (obj n) b).1.m (obj n) with
          | none => rw [hl] at h2; cases h2
          | some x => rw [hl] at h3; rw [show x = b from h3]
theorem up_bad {st : Rem} {n : Int} {b : ByteArray} (h : n < 0 ∨ 999999 < n) : (pubUpload st n b).2.2 = 1 := by
  unfold pubUpload
  rw [if_pos (by omega)]
theorem fetch_m (st : Rem) (s : SgI) : (pubFetch st s).1.m = st.m := by
  unfold pubFetch
  split
  · exact get_m _ _
  · split
    · exact get_m _ _
    · exact get_m _ _
theorem sgEq_self (a : SgI) : sgEq a a = true := by unfold sgEq; simp
theorem fetch_ok {st : Rem} {n : Int} {b : ByteArray} (hs : st.s = []) (h : look st.m (obj n) = some b) : (pubFetch st (sgOf n b)).2 = (b, 0) := by
  have hg : (st.get (obj n)).2 = (b, 0) := by
    unfold Rem.get
    rw [if_neg (by unfold Rem.fate; rw [hs]; decide), h]
  have e0 : (sgOf n b).f0 = n := rfl
  unfold pubFetch
  rw [e0, hg]
  simp only
  rw [if_neg (by decide), if_neg (by rw [sgEq_self]; decide)]
set_option maxHeartbeats 12800000 in
set_option maxRecDepth 100000 in
theorem back_walk (n : Int) (hn : -9223372036854775808 ≤ n ∧ n ≤ 9223372036854775807) (A1 : Option Addr) (c1 : Nat) (l1 : List ByteArray) (A2 : Option Addr) (c2 : Nat) (l2 : List (List Int)) (w : World) (hL : LaidW w)
    (hr1 : Kd.string.C w A1 l1.length l1) (hc1 : l1.length ≤ c1) (hr2 : (Kd.slice 3 (Kd.int .i64)).C w A2 l2.length l2) (hc2 : l2.length ≤ c2) :
    Calls Tryz.prog 5 #[.int .i64 n, .slice A1 l1.length c1, .slice A2 l2.length c2] w fun e w' => e = .returned (.bool true) ∧ Below w.heap.size w w' := by
  have HL := Aside0.mk hL
  have HR1 := Aside0.mk hr1
  have HR2 := Aside0.mk hr2
  clear hL hr1 hr2
  go_enter Tryz.func5, Tryz.ntmps5
  go_wp2_with fail
  refine (awake13.calls w HL.out).mono ?_
  rintro e w1 ⟨rfl, b1⟩
  have B1 := Aside0.mk b1
  clear b1
  go_wp2_with fail
  refine (remote_New.calls w1).mono ?_
  rintro e w2 ⟨r, rfl, h2, b2⟩
  have S2 := Aside0.mk (show RLaw w r ⟨[], [], 0⟩ w2 (fun k => w1.heap.size ≤ k ∧ k < w2.heap.size) from ⟨h2.mono fun k hk hge => ⟨hge, hk⟩, fun k hk => ⟨Nat.le_trans B1.out.size hk.1, hk.2⟩, B1.out.trans (b2.mono B1.out.size)⟩)
  clear h2 b2 B1
  by_cases h20 : 20 < l1.length
  · have d20 : decide ((20 : Int) < (l1.length : Int)) = true := decide_eq_true (by omega)
    go_wp2_with fail
    go_ret
    exact ⟨rfl, S2.out.bel⟩
  have d20 : decide ((20 : Int) < (l1.length : Int)) = false := decide_eq_false (by omega)
  by_cases hlt : l2.length < l1.length
  · have dlt : decide (l2.length < l1.length) = true := decide_eq_true hlt
    go_wp2_with fail
    go_ret
    exact ⟨rfl, S2.out.bel⟩
  have dlt : decide (l2.length < l1.length) = false := decide_eq_false hlt
  go_wp2_with fail
  go_loopw [9] (fun v9 wr => ∃ (i : Nat) (st : Rem) (T : Nat → Prop), v9 = .int .i64 (i : Nat) ∧ i ≤ l1.length ∧ Aside0 (RLaw w r st wr T) ∧ Aside0 (FitV 300 st.m)) (fun v9 _ => l1.length - (intOf v9).toNat)
  case atStart => exact ⟨0, _, _, rfl, Nat.zero_le _, S2, ⟨fun p hp => by cases hp⟩⟩
  case round =>
    obtain ⟨i, st, T, rfl, hi, S3, HF⟩ := hrel
    by_cases hil : i < l1.length
    · have d3 : decide ((i : Int) < (l1.length : Int)) = true := decide_eq_true (by omega)
      obtain ⟨ad1, rfl, x0⟩ := C_strAt (Kd.C_below HR1.out S3.out.bel) hil
      obtain ⟨ad2, A', c', rfl, y0, hyc, hyC⟩ := row_at (Kd.C_below HR2.out S3.out.bel) i l2[i] (List.getElem?_eq_getElem (by omega))
      obtain ⟨b, hb⟩ : ∃ b, l1[i] = b := ⟨_, rfl⟩
      obtain ⟨xs, hxs⟩ : ∃ xs, l2[i]'(by omega) = xs := ⟨_, rfl⟩
      rw [hb] at x0
      rw [hxs] at y0 hyc hyC
      have X1 := Aside0.mk (show ∀ W, Below w.heap.size w W → W.cell? (ad1.add i) = some (.string b) from fun W hW => by
        obtain ⟨ad1', e, x⟩ := C_strAt (Kd.C_below HR1.out hW) hil
        cases e
        rw [hb] at x
        exact x)
      have HY := Aside0.mk hyC
      have i0 : 0 ≤ (i : Int) := by omega
      have i1 : (i : Int) < (l1.length : Int) := by omega
      have i2 : (i : Int) < (l2.length : Int) := by omega
      clear hb hxs hyC
      by_cases hb3 : 300 < b.size
      · have d4 : decide ((300 : Int) < (b.size : Int)) = true := decide_eq_true (by omega)
        go_wp2_with fail
        go_ret
        exact ⟨rfl, S3.out.bel⟩
      have d4 : decide ((300 : Int) < (b.size : Int)) = false := decide_eq_false (by omega)
      by_cases hx5 : 50 < xs.length
      · have d5 : decide ((50 : Int) < (xs.length : Int)) = true := decide_eq_true (by omega)
        go_wp2_with fail
        go_ret
        exact ⟨rfl, S3.out.bel⟩
      have d5 : decide ((50 : Int) < (xs.length : Int)) = false := decide_eq_false (by omega)
      go_wp2_with fail
      refine (remote_Script.calls wr T r st S3.out.at_ A' xs.length c' xs HY.out hyc (by omega)).mono ?_
      rintro e w4 ⟨rfl, h4, f4⟩
      obtain ⟨T4, S4⟩ : ∃ T4, Aside0 (RLaw w r { st with s := xs } w4 T4) := ⟨_, ⟨S3.out.step (S3.out.rst.step h4 f4)⟩⟩
      have HF4 := Aside0.mk (show FitV 300 ({ st with s := xs } : Rem).m from HF.out)
      clear h4 f4 x0 y0 HY S3 HF
      generalize ({ st with s := xs } : Rem) = st4 at S4 HF4
      have x0 := X1.out w4 S4.out.bel
      go_wp2_with fail
      refine (pub_Upload.calls w4 T4 r st4 S4.out.at_ S4.out.lt (S4.out.laid HL.out) n hn b (by omega)).mono ?_
      rintro e w5 ⟨rfl, T5, k5⟩
      have S5 := Aside0.mk (S4.out.step k5)
      have HF5 := Aside0.mk (HF4.out.up (i := n) (b := b) (by omega))
      have HOK := Aside0.mk (fun h => up_ok (st := st4) (n := n) (b := b) h)
      have HBAD := Aside0.mk (fun h => up_bad (st := st4) (n := n) (b := b) h)
      generalize pubUpload st4 n b = X at S5 HF5 HOK HBAD ⊢
      obtain ⟨st5, ⟨s0, s1, s2⟩, e5⟩ := X
      simp only at S5 HF5 HOK HBAD ⊢
      clear k5 S4 HF4 x0
      go_wp2_with fail
      have S6 := Aside0.mk (S5.out.below (below_alloc (Below.refl _ _) (.cells #[.int .i64 s0, .int .i64 s1, .int .u32 s2] 45)))
      have XB := Aside0.mk (blk_new w5 (.cells #[.int .i64 s0, .int .i64 s1, .int .u32 s2] 45))
      have NB := Aside0.mk (S5.out.not (Nat.le_refl w5.heap.size))
      obtain ⟨gb, hgb⟩ : ∃ g, w5.heap.size = g := ⟨_, rfl⟩
      rw [hgb] at XB NB ⊢
      generalize w5.alloc (.cells #[.int .i64 s0, .int .i64 s1, .int .u32 s2] 45) = w6 at S6 XB ⊢
      clear hgb S5
      refine (remote_Script.calls w6 T5 r st5 S6.out.at_ none 0 0 [] (ints_nil _) (Nat.le_refl _) (by omega)).mono ?_
      rintro e w7 ⟨rfl, h7, f7⟩
      have k7 := S6.out.rst.step h7 f7
      have XB7 := Aside0.mk (own_step k7 XB.out NB.out).1
      obtain ⟨T7, S7⟩ : ∃ T7, Aside0 (RLaw w r { st5 with s := [] } w7 T7) := ⟨_, ⟨S6.out.step k7⟩⟩
      have HF7 := Aside0.mk (show FitV 300 ({ st5 with s := [] } : Rem).m from HF5.out)
      clear h7 f7 k7 S6 XB NB
      by_cases hn1 : n < 0 ∨ 999999 < n
      · have he5 := HBAD.out hn1
        subst he5
        have hq : ((1 : Int) == 1) = true := rfl
        rcases hn1 with hn1 | hn1
        · have d6 : decide (n < 0) = true := decide_eq_true hn1
          go_wp2_with fail
          go_roundw
          case rel => exact ⟨i + 1, _, _, by go_num, by omega, S7, HF7⟩
          case measure => simp [intOf]; omega
        · have d6 : decide (n < 0) = false := decide_eq_false (by omega)
          have d7 : decide (999999 < n) = true := decide_eq_true hn1
          go_wp2_with fail
          go_roundw
          case rel => exact ⟨i + 1, _, _, by go_num, by omega, S7, HF7⟩
          case measure => simp [intOf]; omega
      · have d6 : decide (n < 0) = false := decide_eq_false (by omega)
        have d7 : decide (999999 < n) = false := decide_eq_false (by omega)
        by_cases he : e5 = 0
        · subst he
          obtain ⟨hs, hlk⟩ := HOK.out rfl
          have HFE := Aside0.mk (show (pubFetch { st5 with s := [] } ⟨s0, s1, s2⟩).2 = (b, 0) by rw [hs]; exact fetch_ok rfl hlk)
          have HS0 := Aside0.mk (show s0 = n from congrArg S45.f0 hs)
          obtain ⟨c0, c1', c2', cr⟩ := cells3f XB7.out
          clear hs hlk
          go_wp2_with fail
          refine (pub_Fetch.calls w7 T7 r { st5 with s := [] } S7.out.at_ S7.out.lt (S7.out.laid HL.out) ⟨s0, s1, s2⟩ (by rw [HS0.out]; exact hn) (fun k b' hb' => Nat.le_trans (HF7.out.look k b' hb') (by decide))).mono ?_
          rintro e w8 ⟨rfl, T8, k8⟩
          have S8 := Aside0.mk (S7.out.step k8)
          have HF8 := Aside0.mk (show FitV 300 (pubFetch { st5 with s := [] } ⟨s0, s1, s2⟩).1.m by rw [fetch_m]; exact HF7.out)
          have hf2 := HFE.out
          generalize pubFetch { st5 with s := [] } ⟨s0, s1, s2⟩ = Y at S8 HF8 hf2 ⊢
          obtain ⟨st8, y1, y2⟩ := Y
          simp only [Prod.mk.injEq] at hf2
          obtain ⟨rfl, rfl⟩ := hf2
          simp only at S8 HF8 ⊢
          clear k8 HFE HF7 S7 c0 c1' c2' cr
          have x0 := X1.out w8 S8.out.bel
          have hq : (y1.toList == y1.toList) = true := beq_self_eq_true _
          go_wp2_with fail
          go_roundw
          case rel => exact ⟨i + 1, _, _, by go_num, by omega, S8, HF8⟩
          case measure => simp [intOf]; omega
        · have hq : (e5 == 0) = false := beq_eq_false_iff_ne.2 he
          go_wp2_with fail
          go_roundw
          case rel => exact ⟨i + 1, _, _, by go_num, by omega, S7, HF7⟩
          case measure => simp [intOf]; omega
    · have d3 : decide ((i : Int) < (l1.length : Int)) = false := decide_eq_false (by omega)
      go_wp2_with fail
      go_ret
      exact ⟨rfl, S3.out.bel⟩
theorem back_wide (a0 : Int) (A1 : Option Addr) (n1 c1 : Nat) (l1 : List ByteArray) (A2 : Option Addr) (n2 c2 : Nat) (l2 : List (List Int)) (w : World) (w0 : (Lit.int .i64 a0).wf = true) (K1 : (Kd.slice 9 Kd.string).K w l1 [.slice A1 n1 c1]) (y1 : n1 * 16 ≤ 140737488351232) (G1 : l1.length ≤ 9223372036854775807 ∧ ∀ e101 ∈ l1, e101.size ≤ 9223372036854775807)
    (K2 : (Kd.slice 35 (Kd.slice 3 (Kd.int .i64))).K w l2 [.slice A2 n2 c2]) (y2 : n2 * 24 ≤ 140737488351232) (G2 : l2.length ≤ 9223372036854775807 ∧ ∀ e102 ∈ l2, (e102.length ≤ 9223372036854775807 ∧ ∀ e103 ∈ e102, (Lit.int .i64 e103).wf = true)) (hL : LaidW w) :
    Calls Tryz.prog 5 #[.int .i64 a0, .slice A1 n1 c1, .slice A2 n2 c2] w fun e w' => e = .returned (.bool true) ∧ Below w.heap.size w w' := by
  obtain ⟨A1_, c1_, e1, hc1, hr1⟩ := K1
  simp only [List.cons.injEq, Value.slice.injEq, and_true] at e1
  obtain ⟨rfl, rfl, rfl⟩ := e1
  obtain ⟨A2_, c2_, e2, hc2, hr2⟩ := K2
  simp only [List.cons.injEq, Value.slice.injEq, and_true] at e2
  obtain ⟨rfl, rfl, rfl⟩ := e2
  exact back_walk a0 (wf_i64 w0) _ _ l1 _ _ l2 w hL hr1 hc1 hr2 hc2
end Go.Proofs.YtlnbekaldemebaaGreatDoor.Thw
