/- Layer 7: the laws RemoteWhole and RemoteAgain. -/
import Derived.Test.YtnkadkahdnnbbaaEv07
namespace Go.Proofs.Ytnkadkahdnnbbaa.Thw
open Go Go.RowKit Go.Proofs.YtnkadkahdnnbbaaW.PrintWords Go.Proofs.YtnkadkahdnnbbaaW.PrintLast Go.Proofs.YtnkadkahdnnbbaaW.PrintMore
set_option linter.unusedVariables false
set_option linter.unusedSimpArgs false
/-- All blocks from B on. -/
abbrev up' (B : Nat) : Nat → Prop := fun k => B ≤ k
theorem RemAt.base {w w' : World} {B r : Nat} {st : Rem} (h : RemAt w' (gr (up' B) w) r st) (hB : B ≤ w.heap.size) : RemAt w' (up' B) r st := h.mono fun k _ hk => hk.elim id (fun h => Nat.le_trans hB h)
theorem Frm.up {B : Nat} {w w' : World} (h : Frm (up' B) w w') (hB : B ≤ w.heap.size) : Below B w w' := h.below hB (fun _ _ x => x)
theorem lit_C (w : World) (xs : List Int) (hm : xs.length ≤ 9223372036854775807) : (Kd.int .i64).C (w.alloc (.cells (xs.map (Value.int .i64)).toArray 3)) (some ⟨w.heap.size, 0, none⟩) xs.length xs := by
  have h : (Kd.int .i64).R 3 (w.alloc (.cells (xs.map (Value.int .i64)).toArray 3)) w.heap.size (fun _ => True) (.slice (some ⟨w.heap.size, 0, none⟩) xs.length xs.length) xs :=
    Kd.R_of_own (own_lit_of (enc := Value.int .i64) w w.heap.size 3 xs (Nat.le_refl _) hm) (fun _ _ => trivial)
  obtain ⟨A, c, e, _, h2⟩ := Kd.R_reads h
  injection e with e1 e2 e3
  subst e1
  exact h2
abbrev B_ (l : List UInt8) : ByteArray := ⟨l.toArray⟩
set_option maxHeartbeats 3200000 in
set_option maxRecDepth 100000 in
theorem awake07.calls (w : World) : Calls Try.prog 8 #[] w fun e w' => e = .returned (.bool true) ∧ Below w.heap.size w w' := by
  go_enter Try.func8, Try.ntmps8
  go_wp2_with fail
  refine (remote_New.calls _).mono ?_
  rintro e w1 ⟨r, rfl, h1, b1⟩
  have H1 := Aside0.mk h1
  have B1 := Aside0.mk b1
  clear h1 b1
  go_wp2_with fail
  refine (remote_Script.calls _ (up' w.heap.size) r _ (H1.out.alloc _) _ 2 2 [2, 1] (lit_C w1 [2, 1] (by decide)) (Nat.le_refl _) (by decide)).mono ?_
  rintro e w2 ⟨rfl, h2, f2⟩
  have H2 := Aside0.mk (RemAt.base h2 (by have := B1.out.size; simp; omega))
  have B2 := Aside0.mk ((B1.out.alloc B1.out.size _).trans (f2.up (by have := B1.out.size; simp; omega)))
  clear h2 f2 H1 B1
  go_wp2_with fail
  refine (remote_Put.calls _ (up' w.heap.size) r _ H2.out _ _ (by decide)).mono ?_
  rintro e w3 ⟨rfl, h3, f3⟩
  have e3 : Rem.put ⟨[], [2, 1], 0⟩ ⟨#[97]⟩ ⟨#[120]⟩ = (⟨[(⟨#[97]⟩, ⟨#[120]⟩)], [1], 1⟩, 9) := by simp [Rem.put, Rem.get, Rem.putNew, Rem.fate, Rem.next, Thw.put, look, ifAny, wrap64]
  simp only [e3] at h3 ⊢
  have H3 := Aside0.mk (RemAt.base h3 B2.out.size)
  have B3 := Aside0.mk (B2.out.trans (f3.up B2.out.size))
  clear h3 f3 e3 H2 B2
  go_wp2_with fail
  refine (remote_Put.calls _ (up' w.heap.size) r _ H3.out _ _ (by decide)).mono ?_
  rintro e w4 ⟨rfl, h4, f4⟩
  have e4 : Rem.put ⟨[(⟨#[97]⟩, ⟨#[120]⟩)], [1], 1⟩ ⟨#[98]⟩ ⟨#[121]⟩ = (⟨[(⟨#[97]⟩, ⟨#[120]⟩)], [], 2⟩, 9) := by simp [Rem.put, Rem.get, Rem.putNew, Rem.fate, Rem.next, Thw.put, look, ifAny, wrap64]
  simp only [e4] at h4 ⊢
  have H4 := Aside0.mk (RemAt.base h4 B3.out.size)
  have B4 := Aside0.mk (B3.out.trans (f4.up B3.out.size))
  clear h4 f4 e4 H3 B3
  go_wp2_with fail
  refine (remote_Get.calls _ (up' w.heap.size) r _ H4.out _ (by decide)).mono ?_
  rintro e w5 ⟨rfl, h5, f5⟩
  have e5 : Rem.get ⟨[(⟨#[97]⟩, ⟨#[120]⟩)], [], 2⟩ ⟨#[97]⟩ = (⟨[(⟨#[97]⟩, ⟨#[120]⟩)], [], 3⟩, ⟨#[120]⟩, 0) := by simp [Rem.put, Rem.get, Rem.putNew, Rem.fate, Rem.next, Thw.put, look, ifAny, wrap64]
  simp only [e5] at h5 ⊢
  have H5 := Aside0.mk (RemAt.base h5 B4.out.size)
  have B5 := Aside0.mk (B4.out.trans (f5.up B4.out.size))
  clear h5 f5 e5 H4 B4
  go_wp2_with fail
  refine (remote_Get.calls _ (up' w.heap.size) r _ H5.out _ (by decide)).mono ?_
  rintro e w6 ⟨rfl, h6, f6⟩
  have e6 : Rem.get ⟨[(⟨#[97]⟩, ⟨#[120]⟩)], [], 3⟩ ⟨#[98]⟩ = (⟨[(⟨#[97]⟩, ⟨#[120]⟩)], [], 4⟩, ⟨#[]⟩, 5) := by simp [Rem.put, Rem.get, Rem.putNew, Rem.fate, Rem.next, Thw.put, look, ifAny, wrap64]
  simp only [e6] at h6 ⊢
  have H6 := Aside0.mk (RemAt.base h6 B5.out.size)
  have B6 := Aside0.mk (B5.out.trans (f6.up B5.out.size))
  clear h6 f6 e6 H5 B5
  go_wp2_with fail
  refine (remote_Calls.calls _ (up' w.heap.size) r _ H6.out).mono ?_
  rintro e w7 ⟨rfl, rfl⟩
  go_wp2_with fail
  refine (remote_PutNew.calls _ (up' w.heap.size) r _ H6.out _ _ (by decide)).mono ?_
  rintro e w7 ⟨rfl, h7, f7⟩
  have e7 : Rem.putNew ⟨[(⟨#[97]⟩, ⟨#[120]⟩)], [], 4⟩ ⟨#[97]⟩ ⟨#[122]⟩ = (⟨[(⟨#[97]⟩, ⟨#[120]⟩)], [], 5⟩, 7) := by simp [Rem.put, Rem.get, Rem.putNew, Rem.fate, Rem.next, Thw.put, look, ifAny, wrap64]
  simp only [e7] at h7 ⊢
  have H7 := Aside0.mk (RemAt.base h7 B6.out.size)
  have B7 := Aside0.mk (B6.out.trans (f7.up B6.out.size))
  clear h7 f7 e7 H6 B6
  go_wp2_with fail
  go_ret
  exact ⟨rfl, B7.out⟩

/-- A row that was read stays. -/
theorem C_frm {α : Type} {d : Kd α} {B : Nat} {w w1 : World} {A : Option Addr} {n : Nat} {xs : List α} (h : d.C w A n xs) (hb : Below w.heap.size w w1) : d.C w1 A n xs := Kd.C_below h hb
theorem C_int {w : World} {A : Option Addr} {xs : List Int} (h : (Kd.int .i64).C w A xs.length xs) {k : Nat} (hk : k < xs.length) : ∃ ad, A = some ad ∧ w.cell? (ad.add k) = some (.int .i64 xs[k]) := by
  obtain ⟨ad, c, e, hl, hK, hc⟩ := ReadsRow.get_ h (0 : Int) (k : Int) (by omega) (by omega)
  have hK' : c = [Value.int .i64 (xs.getD k 0)] := hK
  subst hK'
  have := hc 0 _ rfl
  refine ⟨ad, e, ?_⟩
  simpa [Kd.int, Kd.scalar, List.getD_eq_getElem?_getD, List.getElem?_eq_getElem hk] using this
theorem C_str {w : World} {A : Option Addr} {xs : List ByteArray} (h : Kd.string.C w A xs.length xs) {k : Nat} (hk : k < xs.length) : ∃ ad, A = some ad ∧ w.cell? (ad.add k) = some (.string xs[k]) := by
  obtain ⟨ad, c, e, hl, hK, hc⟩ := ReadsRow.get_ h (⟨#[]⟩ : ByteArray) (k : Int) (by omega) (by omega)
  have hK' : c = [Value.string (xs.getD k ⟨#[]⟩)] := hK
  subst hK'
  have := hc 0 _ rfl
  refine ⟨ad, e, ?_⟩
  simpa [Kd.string, Kd.scalar, List.getD_eq_getElem?_getD, List.getElem?_eq_getElem hk] using this
set_option maxHeartbeats 3200000 in
set_option maxRecDepth 100000 in
theorem whole_walk (A0 : Option Addr) (c0 : Nat) (l0 : List ByteArray) (A1 : Option Addr) (c1 : Nat) (l1 : List Int) (w : World) (hr0 : Kd.string.C w A0 l0.length l0) (hc0 : l0.length ≤ c0) (hr1 : (Kd.int .i64).C w A1 l1.length l1) (hc1 : l1.length ≤ c1) :
    Calls Try.prog 3 #[.slice A0 l0.length c0, .slice A1 l1.length c1] w fun e w' => e = .returned (.bool true) ∧ Below w.heap.size w w' := by
  have R0 := Aside0.mk hr0
  have R1 := Aside0.mk hr1
  clear hr0 hr1
  by_cases h40 : 40 < l0.length
  · have d40 : decide ((40 : Int) < (l0.length : Int)) = true := decide_eq_true (by omega)
    go_enter Try.func3, Try.ntmps3
    go_wp2_with fail
    refine (awake07.calls _).mono ?_
    rintro e w1 ⟨rfl, b1⟩
    have B1 := Aside0.mk b1
    clear b1
    go_wp2_with fail
    refine (remote_New.calls _).mono ?_
    rintro e w2 ⟨r, rfl, h2, b2⟩
    have B2 := Aside0.mk (B1.out.trans (b2.mono B1.out.size))
    clear h2 b2 B1
    go_wp2_with fail
    go_ret
    exact ⟨rfl, B2.out⟩
  by_cases hlt : l1.length < l0.length
  · have d40 : decide ((40 : Int) < (l0.length : Int)) = false := decide_eq_false (by omega)
    have dlt : decide (l1.length < l0.length) = true := decide_eq_true hlt
    go_enter Try.func3, Try.ntmps3
    go_wp2_with fail
    refine (awake07.calls _).mono ?_
    rintro e w1 ⟨rfl, b1⟩
    have B1 := Aside0.mk b1
    clear b1
    go_wp2_with fail
    refine (remote_New.calls _).mono ?_
    rintro e w2 ⟨r, rfl, h2, b2⟩
    have B2 := Aside0.mk (B1.out.trans (b2.mono B1.out.size))
    clear h2 b2 B1
    go_wp2_with fail
    go_ret
    exact ⟨rfl, B2.out⟩
  have d40 : decide ((40 : Int) < (l0.length : Int)) = false := decide_eq_false (by omega)
  have dlt : decide (l1.length < l0.length) = false := decide_eq_false hlt
  go_enter Try.func3, Try.ntmps3
  go_wp2_with fail
  refine (awake07.calls _).mono ?_
  rintro e w1 ⟨rfl, b1⟩
  have B1 := Aside0.mk b1
  clear b1
  go_wp2_with fail
  refine (remote_New.calls _).mono ?_
  rintro e w2 ⟨r, rfl, h2, b2⟩
  have H2 := Aside0.mk (h2.mono (A' := up' w.heap.size) fun k _ hk => Nat.le_trans B1.out.size hk)
  have B2 := Aside0.mk (B1.out.trans (b2.mono B1.out.size))
  clear h2 b2 B1
  go_wp2_with fail
  go_loopw [7, 8, 9] (fun v7 v8 v9 wr => ∃ (k : Nat) (o : Option ByteArray) (m : List (ByteArray × ByteArray)), k ≤ l0.length ∧ v9 = .int .i64 k ∧ v7 = .string (o.getD ⟨#[]⟩) ∧ v8 = .bool o.isSome ∧ Aside0 (look m ⟨#[97]⟩ = o) ∧ Aside0 (RemAt wr (up' w.heap.size) r ⟨m, [], 2 * k⟩) ∧ Aside0 (Below w.heap.size w wr)) (fun _ _ v9 _ => l0.length - (intOf v9).toNat)
  case atStart => exact ⟨0, none, [], Nat.zero_le _, rfl, rfl, rfl, ⟨rfl⟩, ⟨H2.out⟩, B2⟩
  case round =>
    obtain ⟨k, o, m, hk, rfl, rfl, rfl, HL, HR, HB⟩ := hrel
    by_cases hkn : k < l0.length
    · obtain ⟨ad0, rfl, q0⟩ := C_str (Kd.C_below R0.out (HB.out.mono (Nat.le_refl _))) hkn
      obtain ⟨ad1, rfl, q1⟩ := C_int (Kd.C_below R1.out (HB.out.mono (Nat.le_refl _))) (show k < l1.length by omega)
      have hk1 : k < l1.length := by omega
      have hB0 : w.heap.size ≤ wr.heap.size := HB.out.size
      have hn2 : wrap64 (wrap64 (2 * (k : Int) + 1) + 1) = 2 * ((k + 1 : Nat) : Int) := by unfold wrap64; omega
      by_cases hf1 : l1[k] = 1
      · have e1 : Rem.put ⟨m, [1], 2 * k⟩ ⟨#[97]⟩ l0[k] = (⟨m, [], wrap64 (2 * (k : Int) + 1)⟩, 9) := by simp [Rem.put, Rem.fate, Rem.next]
        have e2 : Rem.get ⟨m, [], wrap64 (2 * (k : Int) + 1)⟩ ⟨#[97]⟩ = (⟨m, [], 2 * ((k + 1 : Nat) : Int)⟩, o.getD ⟨#[]⟩, ifAny o 0 5) := by
          have := HL.out
          simp only [Rem.get, Rem.fate, Rem.next, List.headD_nil, List.tail_nil, hn2, this]
          cases o <;> simp [ifAny]
        have E1 := Aside0.mk e1
        have E2 := Aside0.mk e2
        have N2 := Aside0.mk hn2
        rw [hf1] at q1
        clear e1 e2 hn2
        go_wp2_with fail
        refine (remote_Script.calls _ (up' w.heap.size) r _ (HR.out.alloc _) _ 1 1 [1] (lit_C wr [1] (by simp)) (Nat.le_refl _) (by decide)).mono ?_
        rintro e w3 ⟨rfl, h3, f3⟩
        have H3 := Aside0.mk (RemAt.base h3 (by simp; omega))
        have B3 := Aside0.mk ((HB.out.alloc hB0 _).trans (f3.up (by simp; omega)))
        clear h3 f3 q0 q1
        obtain ⟨_, e0, q0⟩ := C_str (Kd.C_below R0.out B3.out) hkn
        cases e0
        obtain ⟨_, e0, q1⟩ := C_int (Kd.C_below R1.out B3.out) hk1
        cases e0
        rw [hf1] at q1
        go_wp2_with fail
        refine (remote_Put.calls _ (up' w.heap.size) r _ H3.out _ _ (by decide)).mono ?_
        rintro e w4 ⟨rfl, h4, f4⟩
        rw [E1.out] at h4
        simp only [E1.out]
        have H4 := Aside0.mk (RemAt.base h4 B3.out.size)
        have B4 := Aside0.mk (B3.out.trans (f4.up B3.out.size))
        clear h4 f4 q0 q1
        obtain ⟨_, e0, q0⟩ := C_str (Kd.C_below R0.out B4.out) hkn
        cases e0
        obtain ⟨_, e0, q1⟩ := C_int (Kd.C_below R1.out B4.out) hk1
        cases e0
        rw [hf1] at q1
        go_wp2_with fail
        refine (remote_Get.calls _ (up' w.heap.size) r _ H4.out _ (by decide)).mono ?_
        rintro e w5 ⟨rfl, h5, f5⟩
        rw [E2.out] at h5
        simp only [E2.out]
        have H5 := Aside0.mk (RemAt.base h5 B4.out.size)
        have B5 := Aside0.mk (B4.out.trans (f5.up B4.out.size))
        clear h5 f5 q0 q1
        cases o with
        | none =>
          simp only [ifAny]
          go_wp2_with fail
          go_roundw
          case rel => exact ⟨k + 1, none, _, by omega, by go_num, rfl, rfl, ⟨HL.out⟩, H5, B5⟩
          case measure => simp [intOf]; omega
        | some v =>
          simp only [ifAny]
          go_wp2_with fail
          go_roundw
          case rel => exact ⟨k + 1, some v, _, by omega, by go_num, rfl, rfl, ⟨HL.out⟩, H5, B5⟩
          case measure => simp [intOf]; omega
      · by_cases hf2 : l1[k] = 2
        · have e1 : Rem.put ⟨m, [2], 2 * k⟩ ⟨#[97]⟩ l0[k] = (⟨Thw.put m ⟨#[97]⟩ l0[k], [], wrap64 (2 * (k : Int) + 1)⟩, 9) := by simp [Rem.put, Rem.fate, Rem.next]
          have e2 : Rem.get ⟨Thw.put m ⟨#[97]⟩ l0[k], [], wrap64 (2 * (k : Int) + 1)⟩ ⟨#[97]⟩ = (⟨Thw.put m ⟨#[97]⟩ l0[k], [], 2 * ((k + 1 : Nat) : Int)⟩, l0[k], 0) := by
            simp [Rem.get, Rem.fate, Rem.next, hn2, look_put_same]
          have E1 := Aside0.mk e1
          have E2 := Aside0.mk e2
          have N2 := Aside0.mk hn2
          rw [hf2] at q1
          clear e1 e2 hn2
          go_wp2_with fail
          refine (remote_Script.calls _ (up' w.heap.size) r _ (HR.out.alloc _) _ 1 1 [2] (lit_C wr [2] (by simp)) (Nat.le_refl _) (by decide)).mono ?_
          rintro e w3 ⟨rfl, h3, f3⟩
          have H3 := Aside0.mk (RemAt.base h3 (by simp; omega))
          have B3 := Aside0.mk ((HB.out.alloc hB0 _).trans (f3.up (by simp; omega)))
          clear h3 f3 q0 q1
          obtain ⟨_, e0, q0⟩ := C_str (Kd.C_below R0.out B3.out) hkn
          cases e0
          obtain ⟨_, e0, q1⟩ := C_int (Kd.C_below R1.out B3.out) hk1
          cases e0
          rw [hf2] at q1
          go_wp2_with fail
          refine (remote_Put.calls _ (up' w.heap.size) r _ H3.out _ _ (by decide)).mono ?_
          rintro e w4 ⟨rfl, h4, f4⟩
          rw [E1.out] at h4
          simp only [E1.out]
          have H4 := Aside0.mk (RemAt.base h4 B3.out.size)
          have B4 := Aside0.mk (B3.out.trans (f4.up B3.out.size))
          clear h4 f4 q0 q1
          obtain ⟨_, e0, q0⟩ := C_str (Kd.C_below R0.out B4.out) hkn
          cases e0
          obtain ⟨_, e0, q1⟩ := C_int (Kd.C_below R1.out B4.out) hk1
          cases e0
          rw [hf2] at q1
          go_wp2_with fail
          refine (remote_Get.calls _ (up' w.heap.size) r _ H4.out _ (by decide)).mono ?_
          rintro e w5 ⟨rfl, h5, f5⟩
          rw [E2.out] at h5
          simp only [E2.out]
          have H5 := Aside0.mk (RemAt.base h5 B4.out.size)
          have B5 := Aside0.mk (B4.out.trans (f5.up B4.out.size))
          clear h5 f5 q0 q1
          go_wp2_with fail
          go_roundw
          case rel => exact ⟨k + 1, some l0[k], _, by omega, by go_num, rfl, rfl, ⟨look_put_same _ _ _⟩, H5, B5⟩
          case measure => simp [intOf]; omega
        · obtain ⟨f, hf⟩ : ∃ f, l1[k] = f := ⟨_, rfl⟩
          rw [hf] at hf1 hf2
          have HF := Aside0.mk hf
          clear hf
          have g1 : (f == 1) = false := beq_eq_false_iff_ne.2 hf1
          have g2 : (f == 2) = false := beq_eq_false_iff_ne.2 hf2
          have g3 : (f != 1) = true := bne_iff_ne.2 hf1
          have e1 : Rem.put ⟨m, [f], 2 * k⟩ ⟨#[97]⟩ l0[k] = (⟨Thw.put m ⟨#[97]⟩ l0[k], [], wrap64 (2 * (k : Int) + 1)⟩, 0) := by simp [Rem.put, Rem.fate, Rem.next, hf1, hf2]
          have e2 : Rem.get ⟨Thw.put m ⟨#[97]⟩ l0[k], [], wrap64 (2 * (k : Int) + 1)⟩ ⟨#[97]⟩ = (⟨Thw.put m ⟨#[97]⟩ l0[k], [], 2 * ((k + 1 : Nat) : Int)⟩, l0[k], 0) := by
            simp [Rem.get, Rem.fate, Rem.next, hn2, look_put_same]
          have E1 := Aside0.mk e1
          have E2 := Aside0.mk e2
          have N2 := Aside0.mk hn2
          rw [HF.out] at q1
          clear e1 e2 hn2
          go_wp2_with fail
          refine (remote_Script.calls _ (up' w.heap.size) r _ (HR.out.alloc _) _ 1 1 [f] (lit_C wr [f] (by simp)) (Nat.le_refl _) (by decide)).mono ?_
          rintro e w3 ⟨rfl, h3, f3⟩
          have H3 := Aside0.mk (RemAt.base h3 (by simp; omega))
          have B3 := Aside0.mk ((HB.out.alloc hB0 _).trans (f3.up (by simp; omega)))
          clear h3 f3 q0 q1
          obtain ⟨_, e0, q0⟩ := C_str (Kd.C_below R0.out B3.out) hkn
          cases e0
          obtain ⟨_, e0, q1⟩ := C_int (Kd.C_below R1.out B3.out) hk1
          cases e0
          rw [HF.out] at q1
          go_wp2_with fail
          refine (remote_Put.calls _ (up' w.heap.size) r _ H3.out _ _ (by decide)).mono ?_
          rintro e w4 ⟨rfl, h4, f4⟩
          rw [E1.out] at h4
          simp only [E1.out]
          have H4 := Aside0.mk (RemAt.base h4 B3.out.size)
          have B4 := Aside0.mk (B3.out.trans (f4.up B3.out.size))
          clear h4 f4 q0 q1
          obtain ⟨_, e0, q0⟩ := C_str (Kd.C_below R0.out B4.out) hkn
          cases e0
          obtain ⟨_, e0, q1⟩ := C_int (Kd.C_below R1.out B4.out) hk1
          cases e0
          rw [HF.out] at q1
          go_wp2_with fail
          refine (remote_Get.calls _ (up' w.heap.size) r _ H4.out _ (by decide)).mono ?_
          rintro e w5 ⟨rfl, h5, f5⟩
          rw [E2.out] at h5
          simp only [E2.out]
          have H5 := Aside0.mk (RemAt.base h5 B4.out.size)
          have B5 := Aside0.mk (B4.out.trans (f5.up B4.out.size))
          clear h5 f5 q0 q1
          go_wp2_with fail
          go_roundw
          case rel => exact ⟨k + 1, some l0[k], _, by omega, by go_num, rfl, rfl, ⟨look_put_same _ _ _⟩, H5, B5⟩
          case measure => simp [intOf]; omega
    · have hkk : k = l0.length := by omega
      subst hkk
      go_wp2_with fail
      refine (remote_Calls.calls _ (up' w.heap.size) r _ HR.out).mono ?_
      rintro e w3 ⟨rfl, rfl⟩
      go_wp2_with fail
      go_ret
      exact ⟨rfl, HB.out⟩

def fstI : Option Nat → Int | none => -1 | some j => j
set_option maxHeartbeats 6400000 in
set_option maxRecDepth 100000 in
theorem again_walk (A0 : Option Addr) (c0 : Nat) (l0 : List ByteArray) (A1 : Option Addr) (c1 : Nat) (l1 : List Int) (w : World) (hr0 : Kd.string.C w A0 l0.length l0) (hc0 : l0.length ≤ c0) (hr1 : (Kd.int .i64).C w A1 l1.length l1) (hc1 : l1.length ≤ c1) :
    Calls Try.prog 4 #[.slice A0 l0.length c0, .slice A1 l1.length c1] w fun e w' => e = .returned (.bool true) ∧ Below w.heap.size w w' := by
  have R0 := Aside0.mk hr0
  have R1 := Aside0.mk hr1
  clear hr0 hr1
  by_cases h40 : 40 < l0.length
  · have d40 : decide ((40 : Int) < (l0.length : Int)) = true := decide_eq_true (by omega)
    go_enter Try.func4, Try.ntmps4
    go_wp2_with fail
    refine (awake07.calls _).mono ?_
    rintro e w1 ⟨rfl, b1⟩
    have B1 := Aside0.mk b1
    clear b1
    go_wp2_with fail
    refine (remote_New.calls _).mono ?_
    rintro e w2 ⟨r, rfl, h2, b2⟩
    have B2 := Aside0.mk (B1.out.trans (b2.mono B1.out.size))
    clear h2 b2 B1
    go_wp2_with fail
    go_ret
    exact ⟨rfl, B2.out⟩
  by_cases hlt : l1.length < l0.length
  · have d40 : decide ((40 : Int) < (l0.length : Int)) = false := decide_eq_false (by omega)
    have dlt : decide (l1.length < l0.length) = true := decide_eq_true hlt
    go_enter Try.func4, Try.ntmps4
    go_wp2_with fail
    refine (awake07.calls _).mono ?_
    rintro e w1 ⟨rfl, b1⟩
    have B1 := Aside0.mk b1
    clear b1
    go_wp2_with fail
    refine (remote_New.calls _).mono ?_
    rintro e w2 ⟨r, rfl, h2, b2⟩
    have B2 := Aside0.mk (B1.out.trans (b2.mono B1.out.size))
    clear h2 b2 B1
    go_wp2_with fail
    go_ret
    exact ⟨rfl, B2.out⟩
  have d40 : decide ((40 : Int) < (l0.length : Int)) = false := decide_eq_false (by omega)
  have dlt : decide (l1.length < l0.length) = false := decide_eq_false hlt
  go_enter Try.func4, Try.ntmps4
  go_wp2_with fail
  refine (awake07.calls _).mono ?_
  rintro e w1 ⟨rfl, b1⟩
  have B1 := Aside0.mk b1
  clear b1
  go_wp2_with fail
  refine (remote_New.calls _).mono ?_
  rintro e w2 ⟨r, rfl, h2, b2⟩
  have H2 := Aside0.mk (h2.mono (A' := up' w.heap.size) fun k _ hk => Nat.le_trans B1.out.size hk)
  have B2 := Aside0.mk (B1.out.trans (b2.mono B1.out.size))
  clear h2 b2 B1
  go_wp2_with fail
  go_loopw [7, 8] (fun v7 v8 wr => ∃ (k : Nat) (o : Option Nat) (m : List (ByteArray × ByteArray)) (n : Int), k ≤ l0.length ∧ v8 = .int .i64 k ∧ v7 = .int .i64 (fstI o) ∧ Aside0 (look m ⟨#[97]⟩ = o.map (fun j => l0.getD j ⟨#[]⟩)) ∧ Aside0 (∀ j, o = some j → j < l0.length) ∧ Aside0 (RemAt wr (up' w.heap.size) r ⟨m, [], n⟩) ∧ Aside0 (Below w.heap.size w wr)) (fun _ v8 _ => l0.length - (intOf v8).toNat)
  case atStart => exact ⟨0, none, [], 0, Nat.zero_le _, rfl, rfl, ⟨rfl⟩, ⟨fun _ h => by cases h⟩, ⟨H2.out⟩, B2⟩
  case round =>
    obtain ⟨k, o, m, n, hk, rfl, rfl, HL, HJ, HR, HB⟩ := hrel
    by_cases hkn : k < l0.length
    · obtain ⟨ad0, rfl, q0⟩ := C_str (Kd.C_below R0.out (HB.out.mono (Nat.le_refl _))) hkn
      obtain ⟨ad1, rfl, q1⟩ := C_int (Kd.C_below R1.out (HB.out.mono (Nat.le_refl _))) (show k < l1.length by omega)
      have hk1 : k < l1.length := by omega
      have hB0 : w.heap.size ≤ wr.heap.size := HB.out.size
      by_cases hf1 : l1[k] = 1
      · cases o with
        | none =>
          have e1 : Rem.putNew ⟨m, [1], n⟩ ⟨#[97]⟩ l0[k] = (⟨m, [], wrap64 (n + 1)⟩, 9) := by
            have := HL.out
            simp only [Option.map] at this
            simp [Rem.putNew, Rem.fate, Rem.next, this, ifAny]
          have E1 := Aside0.mk e1
          clear e1
          rw [hf1] at q1
          simp only [fstI]
          go_wp2_with fail
          refine (remote_Script.calls _ (up' w.heap.size) r _ (HR.out.alloc _) _ 1 1 [1] (lit_C wr [1] (by simp)) (Nat.le_refl _) (by decide)).mono ?_
          rintro e w3 ⟨rfl, h3, f3⟩
          have H3 := Aside0.mk (RemAt.base h3 (by simp; omega))
          have B3 := Aside0.mk ((HB.out.alloc hB0 _).trans (f3.up (by simp; omega)))
          clear h3 f3 q0 q1
          obtain ⟨_, e0, q0⟩ := C_str (Kd.C_below R0.out B3.out) hkn
          cases e0
          obtain ⟨_, e0, q1⟩ := C_int (Kd.C_below R1.out B3.out) hk1
          cases e0
          rw [hf1] at q1
          go_wp2_with fail
          refine (remote_PutNew.calls _ (up' w.heap.size) r _ H3.out _ _ (by decide)).mono ?_
          rintro e w4 ⟨rfl, h4, f4⟩
          rw [E1.out] at h4
          simp only [E1.out]
          have H4 := Aside0.mk (RemAt.base h4 B3.out.size)
          have B4 := Aside0.mk (B3.out.trans (f4.up B3.out.size))
          clear h4 f4 q0 q1
          obtain ⟨_, e0, q0⟩ := C_str (Kd.C_below R0.out B4.out) hkn
          cases e0
          obtain ⟨_, e0, q1⟩ := C_int (Kd.C_below R1.out B4.out) hk1
          cases e0
          rw [hf1] at q1
          go_wp2_with fail
          go_roundw
          case rel => exact ⟨k + 1, none, _, _, by omega, by go_num, rfl, ⟨HL.out⟩, ⟨HJ.out⟩, H4, B4⟩
          case measure => simp [intOf]; omega
        | some j =>
          have e1 : Rem.putNew ⟨m, [1], n⟩ ⟨#[97]⟩ l0[k] = (⟨m, [], wrap64 (n + 1)⟩, 9) := by
            have := HL.out
            simp only [Option.map] at this
            simp [Rem.putNew, Rem.fate, Rem.next, this, ifAny]
          have E1 := Aside0.mk e1
          clear e1
          rw [hf1] at q1
          simp only [fstI]
          have dj : decide ((j : Int) < 0) = false := decide_eq_false (by omega)
          go_wp2_with fail
          refine (remote_Script.calls _ (up' w.heap.size) r _ (HR.out.alloc _) _ 1 1 [1] (lit_C wr [1] (by simp)) (Nat.le_refl _) (by decide)).mono ?_
          rintro e w3 ⟨rfl, h3, f3⟩
          have H3 := Aside0.mk (RemAt.base h3 (by simp; omega))
          have B3 := Aside0.mk ((HB.out.alloc hB0 _).trans (f3.up (by simp; omega)))
          clear h3 f3 q0 q1
          obtain ⟨_, e0, q0⟩ := C_str (Kd.C_below R0.out B3.out) hkn
          cases e0
          obtain ⟨_, e0, q1⟩ := C_int (Kd.C_below R1.out B3.out) hk1
          cases e0
          rw [hf1] at q1
          go_wp2_with fail
          refine (remote_PutNew.calls _ (up' w.heap.size) r _ H3.out _ _ (by decide)).mono ?_
          rintro e w4 ⟨rfl, h4, f4⟩
          rw [E1.out] at h4
          simp only [E1.out]
          have H4 := Aside0.mk (RemAt.base h4 B3.out.size)
          have B4 := Aside0.mk (B3.out.trans (f4.up B3.out.size))
          clear h4 f4 q0 q1
          obtain ⟨_, e0, q0⟩ := C_str (Kd.C_below R0.out B4.out) hkn
          cases e0
          obtain ⟨_, e0, q1⟩ := C_int (Kd.C_below R1.out B4.out) hk1
          cases e0
          rw [hf1] at q1
          go_wp2_with fail
          go_roundw
          case rel => exact ⟨k + 1, some j, _, _, by omega, by go_num, rfl, ⟨HL.out⟩, ⟨HJ.out⟩, H4, B4⟩
          case measure => simp [intOf]; omega
      · by_cases hf2 : l1[k] = 2
        · cases o with
          | none =>
            have e1 : Rem.putNew ⟨m, [2], n⟩ ⟨#[97]⟩ l0[k] = (⟨Thw.put m ⟨#[97]⟩ l0[k], [], wrap64 (n + 1)⟩, 9) := by
              have := HL.out
              simp only [Option.map] at this
              simp [Rem.putNew, Rem.fate, Rem.next, this, ifAny]
            have E1 := Aside0.mk e1
            clear e1
            rw [hf2] at q1
            simp only [fstI]
            go_wp2_with fail
            refine (remote_Script.calls _ (up' w.heap.size) r _ (HR.out.alloc _) _ 1 1 [2] (lit_C wr [2] (by simp)) (Nat.le_refl _) (by decide)).mono ?_
            rintro e w3 ⟨rfl, h3, f3⟩
            have H3 := Aside0.mk (RemAt.base h3 (by simp; omega))
            have B3 := Aside0.mk ((HB.out.alloc hB0 _).trans (f3.up (by simp; omega)))
            clear h3 f3 q0 q1
            obtain ⟨_, e0, q0⟩ := C_str (Kd.C_below R0.out B3.out) hkn
            cases e0
            obtain ⟨_, e0, q1⟩ := C_int (Kd.C_below R1.out B3.out) hk1
            cases e0
            rw [hf2] at q1
            go_wp2_with fail
            refine (remote_PutNew.calls _ (up' w.heap.size) r _ H3.out _ _ (by decide)).mono ?_
            rintro e w4 ⟨rfl, h4, f4⟩
            rw [E1.out] at h4
            simp only [E1.out]
            have H4 := Aside0.mk (RemAt.base h4 B3.out.size)
            have B4 := Aside0.mk (B3.out.trans (f4.up B3.out.size))
            clear h4 f4 q0 q1
            obtain ⟨_, e0, q0⟩ := C_str (Kd.C_below R0.out B4.out) hkn
            cases e0
            obtain ⟨_, e0, q1⟩ := C_int (Kd.C_below R1.out B4.out) hk1
            cases e0
            rw [hf2] at q1
            go_wp2_with fail
            go_roundw
            case rel => exact ⟨k + 1, some k, _, _, by omega, by go_num, rfl, ⟨by rw [look_put_same]; simp [List.getD_eq_getElem?_getD, List.getElem?_eq_getElem hkn]⟩, ⟨fun _ h => by cases h; exact hkn⟩, H4, B4⟩
            case measure => simp [intOf]; omega
          | some j =>
            have e1 : Rem.putNew ⟨m, [2], n⟩ ⟨#[97]⟩ l0[k] = (⟨m, [], wrap64 (n + 1)⟩, 9) := by
              have := HL.out
              simp only [Option.map] at this
              simp [Rem.putNew, Rem.fate, Rem.next, this, ifAny]
            have E1 := Aside0.mk e1
            clear e1
            rw [hf2] at q1
            simp only [fstI]
            have dj : decide ((j : Int) < 0) = false := decide_eq_false (by omega)
            go_wp2_with fail
            refine (remote_Script.calls _ (up' w.heap.size) r _ (HR.out.alloc _) _ 1 1 [2] (lit_C wr [2] (by simp)) (Nat.le_refl _) (by decide)).mono ?_
            rintro e w3 ⟨rfl, h3, f3⟩
            have H3 := Aside0.mk (RemAt.base h3 (by simp; omega))
            have B3 := Aside0.mk ((HB.out.alloc hB0 _).trans (f3.up (by simp; omega)))
            clear h3 f3 q0 q1
            obtain ⟨_, e0, q0⟩ := C_str (Kd.C_below R0.out B3.out) hkn
            cases e0
            obtain ⟨_, e0, q1⟩ := C_int (Kd.C_below R1.out B3.out) hk1
            cases e0
            rw [hf2] at q1
            go_wp2_with fail
            refine (remote_PutNew.calls _ (up' w.heap.size) r _ H3.out _ _ (by decide)).mono ?_
            rintro e w4 ⟨rfl, h4, f4⟩
            rw [E1.out] at h4
            simp only [E1.out]
            have H4 := Aside0.mk (RemAt.base h4 B3.out.size)
            have B4 := Aside0.mk (B3.out.trans (f4.up B3.out.size))
            clear h4 f4 q0 q1
            obtain ⟨_, e0, q0⟩ := C_str (Kd.C_below R0.out B4.out) hkn
            cases e0
            obtain ⟨_, e0, q1⟩ := C_int (Kd.C_below R1.out B4.out) hk1
            cases e0
            rw [hf2] at q1
            go_wp2_with fail
            go_roundw
            case rel => exact ⟨k + 1, some j, _, _, by omega, by go_num, rfl, ⟨HL.out⟩, ⟨HJ.out⟩, H4, B4⟩
            case measure => simp [intOf]; omega
        · obtain ⟨f, hf⟩ : ∃ f, l1[k] = f := ⟨_, rfl⟩
          rw [hf] at hf1 hf2
          have HF := Aside0.mk hf
          clear hf
          have g1 : (f == 1) = false := beq_eq_false_iff_ne.2 hf1
          have g2 : (f == 2) = false := beq_eq_false_iff_ne.2 hf2
          have g3 : (f != 1) = true := bne_iff_ne.2 hf1
          have g4 : (f != 2) = true := bne_iff_ne.2 hf2
          cases o with
          | none =>
            have e1 : Rem.putNew ⟨m, [f], n⟩ ⟨#[97]⟩ l0[k] = (⟨Thw.put m ⟨#[97]⟩ l0[k], [], wrap64 (n + 1)⟩, 0) := by
              have := HL.out
              simp only [Option.map] at this
              simp [Rem.putNew, Rem.fate, Rem.next, hf1, hf2, this, ifAny]
            have E1 := Aside0.mk e1
            clear e1
            rw [HF.out] at q1
            simp only [fstI]
            go_wp2_with fail
            refine (remote_Script.calls _ (up' w.heap.size) r _ (HR.out.alloc _) _ 1 1 [f] (lit_C wr [f] (by simp)) (Nat.le_refl _) (by decide)).mono ?_
            rintro e w3 ⟨rfl, h3, f3⟩
            have H3 := Aside0.mk (RemAt.base h3 (by simp; omega))
            have B3 := Aside0.mk ((HB.out.alloc hB0 _).trans (f3.up (by simp; omega)))
            clear h3 f3 q0 q1
            obtain ⟨_, e0, q0⟩ := C_str (Kd.C_below R0.out B3.out) hkn
            cases e0
            obtain ⟨_, e0, q1⟩ := C_int (Kd.C_below R1.out B3.out) hk1
            cases e0
            rw [HF.out] at q1
            go_wp2_with fail
            refine (remote_PutNew.calls _ (up' w.heap.size) r _ H3.out _ _ (by decide)).mono ?_
            rintro e w4 ⟨rfl, h4, f4⟩
            rw [E1.out] at h4
            simp only [E1.out]
            have H4 := Aside0.mk (RemAt.base h4 B3.out.size)
            have B4 := Aside0.mk (B3.out.trans (f4.up B3.out.size))
            clear h4 f4 q0 q1
            obtain ⟨_, e0, q0⟩ := C_str (Kd.C_below R0.out B4.out) hkn
            cases e0
            obtain ⟨_, e0, q1⟩ := C_int (Kd.C_below R1.out B4.out) hk1
            cases e0
            rw [HF.out] at q1
            go_wp2_with fail
            go_roundw
            case rel => exact ⟨k + 1, some k, _, _, by omega, by go_num, rfl, ⟨by rw [look_put_same]; simp [List.getD_eq_getElem?_getD, List.getElem?_eq_getElem hkn]⟩, ⟨fun _ h => by cases h; exact hkn⟩, H4, B4⟩
            case measure => simp [intOf]; omega
          | some j =>
            have e1 : Rem.putNew ⟨m, [f], n⟩ ⟨#[97]⟩ l0[k] = (⟨m, [], wrap64 (n + 1)⟩, 7) := by
              have := HL.out
              simp only [Option.map] at this
              simp [Rem.putNew, Rem.fate, Rem.next, hf1, hf2, this, ifAny]
            have E1 := Aside0.mk e1
            clear e1
            rw [HF.out] at q1
            simp only [fstI]
            have dj : decide ((j : Int) < 0) = false := decide_eq_false (by omega)
            go_wp2_with fail
            refine (remote_Script.calls _ (up' w.heap.size) r _ (HR.out.alloc _) _ 1 1 [f] (lit_C wr [f] (by simp)) (Nat.le_refl _) (by decide)).mono ?_
            rintro e w3 ⟨rfl, h3, f3⟩
            have H3 := Aside0.mk (RemAt.base h3 (by simp; omega))
            have B3 := Aside0.mk ((HB.out.alloc hB0 _).trans (f3.up (by simp; omega)))
            clear h3 f3 q0 q1
            obtain ⟨_, e0, q0⟩ := C_str (Kd.C_below R0.out B3.out) hkn
            cases e0
            obtain ⟨_, e0, q1⟩ := C_int (Kd.C_below R1.out B3.out) hk1
            cases e0
            rw [HF.out] at q1
            go_wp2_with fail
            refine (remote_PutNew.calls _ (up' w.heap.size) r _ H3.out _ _ (by decide)).mono ?_
            rintro e w4 ⟨rfl, h4, f4⟩
            rw [E1.out] at h4
            simp only [E1.out]
            have H4 := Aside0.mk (RemAt.base h4 B3.out.size)
            have B4 := Aside0.mk (B3.out.trans (f4.up B3.out.size))
            clear h4 f4 q0 q1
            obtain ⟨_, e0, q0⟩ := C_str (Kd.C_below R0.out B4.out) hkn
            cases e0
            obtain ⟨_, e0, q1⟩ := C_int (Kd.C_below R1.out B4.out) hk1
            cases e0
            rw [HF.out] at q1
            go_wp2_with fail
            go_roundw
            case rel => exact ⟨k + 1, some j, _, _, by omega, by go_num, rfl, ⟨HL.out⟩, ⟨HJ.out⟩, H4, B4⟩
            case measure => simp [intOf]; omega
    · have hkk : k = l0.length := by omega
      subst hkk
      cases o with
      | none =>
        have e1 : Rem.get ⟨m, [], n⟩ ⟨#[97]⟩ = (⟨m, [], wrap64 (n + 1)⟩, ⟨#[]⟩, 5) := by
          have := HL.out
          simp only [Option.map] at this
          simp [Rem.get, Rem.fate, Rem.next, this]
        have E1 := Aside0.mk e1
        clear e1
        simp only [fstI]
        go_wp2_with fail
        refine (remote_Get.calls _ (up' w.heap.size) r _ HR.out _ (by decide)).mono ?_
        rintro e w5 ⟨rfl, h5, f5⟩
        simp only [E1.out]
        have B5 := Aside0.mk (HB.out.trans (f5.up HB.out.size))
        clear h5 f5
        go_wp2_with fail
        go_ret
        exact ⟨rfl, B5.out⟩
      | some j =>
        have hj : j < l0.length := HJ.out j rfl
        have e1 : Rem.get ⟨m, [], n⟩ ⟨#[97]⟩ = (⟨m, [], wrap64 (n + 1)⟩, l0[j], 0) := by
          have := HL.out
          simp only [Option.map, List.getD_eq_getElem?_getD, List.getElem?_eq_getElem hj, Option.getD_some] at this
          simp [Rem.get, Rem.fate, Rem.next, this]
        have E1 := Aside0.mk e1
        clear e1
        have dj : decide ((j : Int) < 0) = false := decide_eq_false (by omega)
        simp only [fstI]
        go_wp2_with fail
        refine (remote_Get.calls _ (up' w.heap.size) r _ HR.out _ (by decide)).mono ?_
        rintro e w5 ⟨rfl, h5, f5⟩
        simp only [E1.out]
        have B5 := Aside0.mk (HB.out.trans (f5.up HB.out.size))
        clear h5 f5
        obtain ⟨ad0, rfl, q0⟩ := C_str (Kd.C_below R0.out B5.out) hj
        go_wp2_with fail
        go_ret
        exact ⟨by simp, B5.out⟩
end Go.Proofs.Ytnkadkahdnnbbaa.Thw
