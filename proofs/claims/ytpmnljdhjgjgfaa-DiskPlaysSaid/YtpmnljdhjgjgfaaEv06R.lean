/- Layer 6: DiskRoom's walk. -/
import Derived.Test.YtpmnljdhjgjgfaaEv06Q
import Derived.Test.YtpmnljdhjgjgfaaEv06g
namespace Go.Proofs.Ytpmnljdhjgjgfaa.Thw
open Go Go.RowKit Go.Proofs.YtpmnljdhjgjgfaaW.PrintWords Go.Proofs.YtpmnljdhjgjgfaaW.PrintLast Go.Proofs.YtpmnljdhjgjgfaaW.PrintMore
attribute [local go_sem] max2_int min2_int max_two min_two
set_option linter.unusedVariables false
set_option linter.unusedSimpArgs false
theorem cells6 {w : World} {s : Nat} {v0 v1 v2 v3 v4 v5 : Value} {t : TypeId} (h : w.heap[s]? = some (.cells #[v0, v1, v2, v3, v4, v5] t)) :
    w.cell? ⟨s, 0, none⟩ = some v0 ∧ w.cell? ⟨s, 1, none⟩ = some v1 ∧ w.cell? ⟨s, 2, none⟩ = some v2 ∧ w.cell? ⟨s, 3, none⟩ = some v3 ∧ w.cell? ⟨s, 4, none⟩ = some v4 ∧ w.cell? ⟨s, 5, none⟩ = some v5 ∧ ∀ i, w.frozen? ⟨s, i, none⟩ = false := by
  refine ⟨?_, ?_, ?_, ?_, ?_, ?_, fun i => ?_⟩ <;> simp [World.cell?, World.frozen?, h]
/-- The sum over the first names. -/
def psum (m : Fls) (j : Nat) : Int := (((names m).take j).map fun s => ((fileIn m s).b.size : Int)).sum
theorem psum_zero (m : Fls) : psum m 0 = 0 := by simp [psum]
theorem psum_succ (m : Fls) (j : Nat) (h : j < (names m).length) : psum m (j + 1) = psum m j + (fileIn m (names m)[j]).b.size := by
  unfold psum
  rw [List.take_succ_eq_append_getElem h, List.map_append, List.sum_append]
  simp
theorem psum_all {m : Fls} (hn : (m.map (·.1)).Nodup) : psum m (names m).length = total m := by
  unfold psum; rw [List.take_length, names_total hn]
theorem psum_mono (m : Fls) {i j : Nat} (h : i ≤ j) : psum m i ≤ psum m j := by
  induction j with
  | zero => have : i = 0 := by omega
            subst this; exact Int.le_refl _
  | succ j ih =>
    by_cases hij : i = j + 1
    · subst hij; exact Int.le_refl _
    · have := ih (by omega)
      by_cases hj : j < (names m).length
      · rw [psum_succ m j hj]; omega
      · have e : psum m (j + 1) = psum m j := by
          unfold psum; rw [List.take_of_length_le (by omega), List.take_of_length_le (by omega)]
        omega
theorem psum_le {m : Fls} (hn : (m.map (·.1)).Nodup) (j : Nat) : 0 ≤ psum m j ∧ psum m j ≤ total m := by
  refine ⟨by rw [← psum_zero m]; exact psum_mono m (Nat.zero_le _), ?_⟩
  by_cases h : j ≤ (names m).length
  · rw [← psum_all hn]; exact psum_mono m h
  · have : psum m j = psum m (names m).length := by unfold psum; rw [List.take_of_length_le (by omega), List.take_length]
    rw [this, psum_all hn]; exact Int.le_refl _
theorem size_in {st : Dsk} (hn : (st.m.map (·.1)).Nodup) {s : ByteArray} (h : s ∈ names st.m) : st.size s = (((fileIn st.m s).b.size : Int), 0) := by
  obtain ⟨p, hp, rfl⟩ := names_mem h
  simp [Dsk.size, fileIn, look_of_mem hn hp]
theorem Inv.file {room : Int} {k : Nat} {st : Dsk} (h : Inv room k st) (hr : room ≤ 1048576) : ∀ name f, look st.m name = some f → f.b.size ≤ 1048576 := by
  intro name f hf
  have := size_le_total (look_mem hf)
  have := h.tot
  simp only at *
  omega
theorem Inv.fileOf {room : Int} {k : Nat} {st : Dsk} (h : Inv room k st) (hr : room ≤ 1048576) (name : ByteArray) : (st.fileOf name).b.size ≤ 1048576 := by
  unfold Dsk.fileOf
  split
  · exact Nat.zero_le _
  · rename_i f hf; exact h.file hr name f hf
/-- What a round reads of one Op. -/
structure OpF where
  f0 : Int
  f1 : Int
  f2 : ByteArray
  f3 : ByteArray
  f4 : ByteArray
def OpF.sized (o : OpF) : Prop := o.f2.size ≤ 9223372036854775807 ∧ o.f3.size ≤ 9223372036854775807 ∧ o.f4.size ≤ 9223372036854775807
/-- The Ops of a slice, cell by cell. -/
def OpsIn (W : World) (A : Option Addr) (n : Nat) (ops : Nat → OpF) : Prop :=
  ∀ i, i < n → ∃ ad A5 m5 c5, A = some ad ∧ W.cell? (ad.add (i * 6)) = some (.int .i64 (ops i).f0) ∧ W.cell? ⟨(ad.add (i * 6)).block, (ad.add (i * 6)).off + 1, none⟩ = some (.int .i64 (ops i).f1) ∧ W.cell? ⟨(ad.add (i * 6)).block, (ad.add (i * 6)).off + 2, none⟩ = some (.string (ops i).f2) ∧ W.cell? ⟨(ad.add (i * 6)).block, (ad.add (i * 6)).off + 3, none⟩ = some (.string (ops i).f3) ∧ W.cell? ⟨(ad.add (i * 6)).block, (ad.add (i * 6)).off + 4, none⟩ = some (.string (ops i).f4) ∧ W.cell? ⟨(ad.add (i * 6)).block, (ad.add (i * 6)).off + 5, none⟩ = some (.slice A5 m5 c5)
set_option maxHeartbeats 6400000 in
set_option maxRecDepth 100000 in
theorem room_walk (room : Int) (A1 : Option Addr) (n c1 : Nat) (ops : Nat → OpF) (w : World) (hc : ∀ W, Below w.heap.size w W → OpsIn W A1 n ops) (hs : ∀ i, i < n → (ops i).sized) (hn : n ≤ c1) :
    Calls Try.prog 4 #[.int .i64 room, .slice A1 n c1] w fun e w' => e = .returned (.bool true) ∧ Below w.heap.size w w' := by
  have HC := Aside0.mk hc
  have HS := Aside0.mk hs
  clear hc hs
  go_enter Try.func4, Try.ntmps4
  go_wp2_with fail
  refine (awake06.calls _).mono ?_
  rintro e w1 ⟨rfl, b1⟩
  have B1 := Aside0.mk b1
  clear b1
  go_wp2_with fail
  refine (disk_New.calls room _).mono ?_
  rintro e w2 (⟨hx, rfl, rfl⟩ | ⟨hroom, d, rfl, h2, b2⟩)
  · go_wp2_with fail
    go_ret
    exact ⟨rfl, B1.out⟩
  have H2 := Aside0.mk (h2.mono (A' := up' w.heap.size) fun k _ hk => Nat.le_trans B1.out.size hk)
  have B2 := Aside0.mk (B1.out.trans (b2.mono B1.out.size))
  have HR := Aside0.mk hroom
  clear h2 b2 B1 hroom
  by_cases h60 : 60 < n
  · have d60 : decide ((60 : Int) < (n : Int)) = true := decide_eq_true (by omega)
    go_wp2_with fail
    go_ret
    exact ⟨rfl, B2.out⟩
  have d60 : decide ((60 : Int) < (n : Int)) = false := decide_eq_false (by omega)
  go_wp2_with fail
  go_loopw [8] (fun v8 wr => ∃ (k : Nat) (st : Dsk), k ≤ n ∧ v8 = .int .i64 k ∧ Aside0 (Inv room k st) ∧ Aside0 (DskAt wr (up' w.heap.size) d st) ∧ Aside0 (Below w.heap.size w wr)) (fun v8 _ => n - (intOf v8).toNat)
  case atStart => exact ⟨0, _, Nat.zero_le _, rfl, ⟨⟨rfl, rfl, rfl, (show total [] ≤ room from HR.out.1), (fun p hp => absurd hp (List.not_mem_nil)), (fun p hp => absurd hp (List.not_mem_nil)), Nat.zero_le _⟩⟩, H2, B2⟩
  case round =>
    obtain ⟨k, st, hk, rfl, HI, HD, HB⟩ := hrel
    by_cases hkn : k < n
    · obtain ⟨ad, A5, m5, c5, rfl, q0, q1, q2, q3, q4, q5⟩ := HC.out _ HB.out k hkn
      have HZ := Aside0.mk (HS.out k hkn)
      generalize ops k = o at q0 q1 q2 q3 q4 q5 HZ
      obtain ⟨x0, x1, x2, x3, x4⟩ := o
      simp only at q0 q1 q2 q3 q4
      by_cases h300 : 300 < x4.size
      · have d3 : decide ((300 : Int) < (x4.size : Int)) = true := decide_eq_true (by omega)
        go_wp2_with fail
        go_ret
        exact ⟨rfl, HB.out.alloc HB.out.size _⟩
      have d3 : decide ((300 : Int) < (x4.size : Int)) = false := decide_eq_false (by omega)
      have hr1 := HR.out
      go_wp2_with fail
      obtain ⟨mb, t1, a1, a2, l1, l2, _⟩ := HD.out.tight
      refine rebase (fun W => DskAt W (fun k => k = d ∨ k = mb) d st ∧ Below w.heap.size w W ∧ W.heap[wr.heap.size]? = some (.cells #[.int .i64 x0, .int .i64 x1, .string x2, .string x3, .string x4, .slice A5 m5 c5] 37) ∧ wr.heap.size < W.heap.size)
        ⟨t1.alloc _, HB.out.alloc HB.out.size _, blk_new _ _, by simp⟩ ?_
      rintro w1 ⟨t2, b2, k2, z2⟩
      clear t1 q0 q1 q2 q3 q4 q5
      have hLt := HI.out.left hr1.2
      have htn := total_nonneg st.m
      have htt := HI.out.tot
      refine (disk_Left.calls w1 _ d st t2 (by rw [HI.out.hroom]; omega)).mono ?_
      rintro e w2 ⟨rfl, b3⟩
      have T2 := Aside0.mk (t2.below b3)
      have B2' := Aside0.mk (b2.trans (b3.mono b2.size))
      have K2 := Aside0.mk (show w2.heap[wr.heap.size]? = _ from (b3.block _ z2).trans k2)
      obtain ⟨c0, e1, e2, e3, e4, e5, fr⟩ := cells6 K2.out
      have hdb : wr.heap.size ≠ d := by omega
      have hmb : wr.heap.size ≠ mb := by omega
      have hTA : ∀ i, (i = d ∨ i = mb) → i < w2.heap.size := fun i hi => by have := b3.size; rcases hi with rfl | rfl <;> omega
      have hTB : ∀ i, (i = d ∨ i = mb) → w.heap.size ≤ i := fun i hi => by rcases hi with rfl | rfl <;> assumption
      have hwz : w.heap.size ≤ w2.heap.size := B2'.out.size
      have HZ2 := HZ.out
      simp only [OpF.sized] at HZ2
      obtain ⟨y1, y2, y3⟩ := HZ2
      have hnd := HI.out
      have HND := Aside0.mk (DskAt.nodup t2)
      clear t2 b2 k2 z2 b3 hnd
      by_cases g4 : x0 = 4
      · subst g4
        go_wp2_with fail
        refine (disk_Rename.calls w2 _ d st T2.out x2 y1 x3 y2).mono ?_
        rintro e w3 ⟨rfl, h3, f3⟩
        have I3 := Aside0.mk (HI.out.rename HND.out x2 x3)
        have H3 := Aside0.mk (show DskAt w3 (up' w.heap.size) d (st.rename x2 x3).1 from h3.mono fun i _ hi => hi.elim (hTB i) (Nat.le_trans hwz))
        have B3 := Aside0.mk (B2'.out.trans (f3.below hwz fun i _ hi => hTB i hi))
        generalize (st.rename x2 x3).1 = st' at I3 H3
        clear h3 f3 c0 e1 e2 e3 e4 e5 fr K2
        go_wp2_with fail
        have hr3 := HR.out
        have hR3 := I3.out.hroom
        have hL3 := I3.out.len
        refine (disk_Left.calls w3 _ d st' H3.out (by rw [hR3]; omega)).mono ?_
        rintro e w4 ⟨rfl, b4⟩
        have H4 := Aside0.mk (H3.out.below b4)
        have B4 := Aside0.mk (B3.out.trans (b4.mono B3.out.size))
        clear b4 H3 B3
        go_wp2_with fail
        refine (disk_List.calls w4 _ d st' H4.out (by omega)).mono ?_
        rintro e w5 ⟨v, rfl, hR, b5⟩
        obtain ⟨A2, cc, rfl, hcc2, hC⟩ := Kd.R_reads hR
        have hnl : (names st'.m).length ≤ 61 := by unfold names; rw [sorted_length, List.length_map]; omega
        have HC5 := Aside0.mk hC
        have H5 := Aside0.mk (H4.out.below b5)
        have B5 := Aside0.mk (B4.out.trans (b5.mono B4.out.size))
        have ND := Aside0.mk (DskAt.nodup H4.out)
        have htot := I3.out.tot
        have hle := I3.out.left hr3.2
        have htn3 := total_nonneg st'.m
        clear b5 hR hC H4 B4
        obtain ⟨lf, hlf⟩ : ∃ lf, st'.left = lf := ⟨_, rfl⟩
        rw [hlf] at hle ⊢
        have HLE := Aside0.mk hle
        clear hle
        go_wp2_with fail
        go_loopw [11, 13] (fun v11 v13 wq => ∃ j : Nat, j ≤ (names st'.m).length ∧ v11 = .int .i64 (lf + psum st'.m j) ∧ v13 = .int .i64 j ∧ Aside0 (Below w5.heap.size w5 wq)) (fun _ v13 _ => (names st'.m).length - (intOf v13).toNat)
        case atStart => exact ⟨0, Nat.zero_le _, by rw [psum_zero, Int.add_zero], rfl, ⟨Below.refl _ _⟩⟩
        case round =>
          obtain ⟨j, hj, rfl, rfl, HQ⟩ := hrel
          by_cases hjn : j < (names st'.m).length
          · obtain ⟨ad2, rfl, qs⟩ := C_str (Kd.C_below HC5.out HQ.out) hjn
            have hmem : (names st'.m)[j] ∈ names st'.m := List.getElem_mem hjn
            have hsz := size_in ND.out hmem
            have hps := psum_succ st'.m j hjn
            have hp0 := psum_le ND.out j
            have hp1 := psum_le ND.out (j + 1)
            have hks : (names st'.m)[j].size ≤ 9223372036854775807 := by
              obtain ⟨p, hp, e⟩ := names_mem hmem
              rw [← e]
              exact Nat.le_trans (I3.out.keys p hp) (by decide)
            generalize (names st'.m)[j] = s at qs hmem hsz hps hks
            generalize psum st'.m j = pj at hps hp0 ⊢
            obtain ⟨pj1, hpj1⟩ : ∃ pj1, psum st'.m (j + 1) = pj1 := ⟨_, rfl⟩
            rw [hpj1] at hps hp1
            have hle := HLE.out
            have hsum : IntKind.i64.wrap (lf + pj + ((fileIn st'.m s).b.size : Int)) = lf + pj1 := by rw [IntWalk.i64_in _ (by omega), hps, Int.add_assoc]
            clear hle hps
            go_wp2_with fail
            refine (disk_Size.calls wr _ d st' (H5.out.below HQ.out) s hks).mono ?_
            rintro e w6 ⟨rfl, b6⟩
            have B6 := Aside0.mk (HQ.out.trans (b6.mono HQ.out.size))
            clear b6
            rw [hsz]
            simp only
            go_wp2_with fail
            go_roundw
            case rel => exact ⟨j + 1, by omega, by rw [hpj1], by go_num, B6⟩
            case measure => simp [intOf]; omega
          · have hjj : j = (names st'.m).length := by omega
            subst hjj
            have hle := HLE.out
            have hend : lf + psum st'.m (names st'.m).length = room := by rw [psum_all ND.out]; omega
            have hneg : decide (lf < 0) = false := decide_eq_false (by omega)
            rw [hend]
            clear hend hle
            go_wp2_with fail
            refine (disk_Left.calls _ _ d st' (H5.out.below HQ.out) (by rw [hR3]; omega)).mono ?_
            rintro e w7 ⟨rfl, b7⟩
            have H7 := Aside0.mk ((H5.out.below HQ.out).below b7)
            have B7 := Aside0.mk ((B5.out.trans (HQ.out.mono B5.out.size)).trans (b7.mono (by have := HQ.out.size; have := B5.out.size; omega)))
            rw [hlf]
            clear b7
            go_wp2_with fail
            go_roundw
            case rel => exact ⟨k + 1, st', by omega, by go_num, I3, H7, B7⟩
            case measure => simp [intOf]; omega
      by_cases g5 : x0 = 5
      · subst g5
        go_wp2_with fail
        refine (disk_Remove.calls w2 _ d st T2.out x2 y1).mono ?_
        rintro e w3 ⟨rfl, h3, f3⟩
        have I3 := Aside0.mk (HI.out.remove HND.out x2)
        have H3 := Aside0.mk (show DskAt w3 (up' w.heap.size) d (st.remove x2).1 from h3.mono fun i _ hi => hi.elim (hTB i) (Nat.le_trans hwz))
        have B3 := Aside0.mk (B2'.out.trans (f3.below hwz fun i _ hi => hTB i hi))
        generalize (st.remove x2).1 = st' at I3 H3
        clear h3 f3 c0 e1 e2 e3 e4 e5 fr K2
        go_wp2_with fail
        have hr3 := HR.out
        have hR3 := I3.out.hroom
        have hL3 := I3.out.len
        refine (disk_Left.calls w3 _ d st' H3.out (by rw [hR3]; omega)).mono ?_
        rintro e w4 ⟨rfl, b4⟩
        have H4 := Aside0.mk (H3.out.below b4)
        have B4 := Aside0.mk (B3.out.trans (b4.mono B3.out.size))
        clear b4 H3 B3
        go_wp2_with fail
        refine (disk_List.calls w4 _ d st' H4.out (by omega)).mono ?_
        rintro e w5 ⟨v, rfl, hR, b5⟩
        obtain ⟨A2, cc, rfl, hcc2, hC⟩ := Kd.R_reads hR
        have hnl : (names st'.m).length ≤ 61 := by unfold names; rw [sorted_length, List.length_map]; omega
        have HC5 := Aside0.mk hC
        have H5 := Aside0.mk (H4.out.below b5)
        have B5 := Aside0.mk (B4.out.trans (b5.mono B4.out.size))
        have ND := Aside0.mk (DskAt.nodup H4.out)
        have htot := I3.out.tot
        have hle := I3.out.left hr3.2
        have htn3 := total_nonneg st'.m
        clear b5 hR hC H4 B4
        obtain ⟨lf, hlf⟩ : ∃ lf, st'.left = lf := ⟨_, rfl⟩
        rw [hlf] at hle ⊢
        have HLE := Aside0.mk hle
        clear hle
        go_wp2_with fail
        go_loopw [11, 13] (fun v11 v13 wq => ∃ j : Nat, j ≤ (names st'.m).length ∧ v11 = .int .i64 (lf + psum st'.m j) ∧ v13 = .int .i64 j ∧ Aside0 (Below w5.heap.size w5 wq)) (fun _ v13 _ => (names st'.m).length - (intOf v13).toNat)
        case atStart => exact ⟨0, Nat.zero_le _, by rw [psum_zero, Int.add_zero], rfl, ⟨Below.refl _ _⟩⟩
        case round =>
          obtain ⟨j, hj, rfl, rfl, HQ⟩ := hrel
          by_cases hjn : j < (names st'.m).length
          · obtain ⟨ad2, rfl, qs⟩ := C_str (Kd.C_below HC5.out HQ.out) hjn
            have hmem : (names st'.m)[j] ∈ names st'.m := List.getElem_mem hjn
            have hsz := size_in ND.out hmem
            have hps := psum_succ st'.m j hjn
            have hp0 := psum_le ND.out j
            have hp1 := psum_le ND.out (j + 1)
            have hks : (names st'.m)[j].size ≤ 9223372036854775807 := by
              obtain ⟨p, hp, e⟩ := names_mem hmem
              rw [← e]
              exact Nat.le_trans (I3.out.keys p hp) (by decide)
            generalize (names st'.m)[j] = s at qs hmem hsz hps hks
            generalize psum st'.m j = pj at hps hp0 ⊢
            obtain ⟨pj1, hpj1⟩ : ∃ pj1, psum st'.m (j + 1) = pj1 := ⟨_, rfl⟩
            rw [hpj1] at hps hp1
            have hle := HLE.out
            have hsum : IntKind.i64.wrap (lf + pj + ((fileIn st'.m s).b.size : Int)) = lf + pj1 := by rw [IntWalk.i64_in _ (by omega), hps, Int.add_assoc]
            clear hle hps
            go_wp2_with fail
            refine (disk_Size.calls wr _ d st' (H5.out.below HQ.out) s hks).mono ?_
            rintro e w6 ⟨rfl, b6⟩
            have B6 := Aside0.mk (HQ.out.trans (b6.mono HQ.out.size))
            clear b6
            rw [hsz]
            simp only
            go_wp2_with fail
            go_roundw
            case rel => exact ⟨j + 1, by omega, by rw [hpj1], by go_num, B6⟩
            case measure => simp [intOf]; omega
          · have hjj : j = (names st'.m).length := by omega
            subst hjj
            have hle := HLE.out
            have hend : lf + psum st'.m (names st'.m).length = room := by rw [psum_all ND.out]; omega
            have hneg : decide (lf < 0) = false := decide_eq_false (by omega)
            rw [hend]
            clear hend hle
            go_wp2_with fail
            refine (disk_Left.calls _ _ d st' (H5.out.below HQ.out) (by rw [hR3]; omega)).mono ?_
            rintro e w7 ⟨rfl, b7⟩
            have H7 := Aside0.mk ((H5.out.below HQ.out).below b7)
            have B7 := Aside0.mk ((B5.out.trans (HQ.out.mono B5.out.size)).trans (b7.mono (by have := HQ.out.size; have := B5.out.size; omega)))
            rw [hlf]
            clear b7
            go_wp2_with fail
            go_roundw
            case rel => exact ⟨k + 1, st', by omega, by go_num, I3, H7, B7⟩
            case measure => simp [intOf]; omega
      by_cases g6 : x0 = 6
      · subst g6
        go_wp2_with fail
        refine (disk_Cut.calls w2 _ d st T2.out x2 y1 x1 (fun f hf => Nat.le_trans (HI.out.file hr1.2 x2 f hf) (by decide))).mono ?_
        rintro e w3 ⟨rfl, h3, f3⟩
        have I3 := Aside0.mk (HI.out.cut HND.out x2 x1)
        have H3 := Aside0.mk (show DskAt w3 (up' w.heap.size) d (st.cut x2 x1).1 from h3.mono fun i _ hi => hi.elim (hTB i) (Nat.le_trans hwz))
        have B3 := Aside0.mk (B2'.out.trans (f3.below hwz fun i _ hi => hTB i hi))
        generalize (st.cut x2 x1).1 = st' at I3 H3
        clear h3 f3 c0 e1 e2 e3 e4 e5 fr K2
        go_wp2_with fail
        have hr3 := HR.out
        have hR3 := I3.out.hroom
        have hL3 := I3.out.len
        refine (disk_Left.calls w3 _ d st' H3.out (by rw [hR3]; omega)).mono ?_
        rintro e w4 ⟨rfl, b4⟩
        have H4 := Aside0.mk (H3.out.below b4)
        have B4 := Aside0.mk (B3.out.trans (b4.mono B3.out.size))
        clear b4 H3 B3
        go_wp2_with fail
        refine (disk_List.calls w4 _ d st' H4.out (by omega)).mono ?_
        rintro e w5 ⟨v, rfl, hR, b5⟩
        obtain ⟨A2, cc, rfl, hcc2, hC⟩ := Kd.R_reads hR
        have hnl : (names st'.m).length ≤ 61 := by unfold names; rw [sorted_length, List.length_map]; omega
        have HC5 := Aside0.mk hC
        have H5 := Aside0.mk (H4.out.below b5)
        have B5 := Aside0.mk (B4.out.trans (b5.mono B4.out.size))
        have ND := Aside0.mk (DskAt.nodup H4.out)
        have htot := I3.out.tot
        have hle := I3.out.left hr3.2
        have htn3 := total_nonneg st'.m
        clear b5 hR hC H4 B4
        obtain ⟨lf, hlf⟩ : ∃ lf, st'.left = lf := ⟨_, rfl⟩
        rw [hlf] at hle ⊢
        have HLE := Aside0.mk hle
        clear hle
        go_wp2_with fail
        go_loopw [11, 13] (fun v11 v13 wq => ∃ j : Nat, j ≤ (names st'.m).length ∧ v11 = .int .i64 (lf + psum st'.m j) ∧ v13 = .int .i64 j ∧ Aside0 (Below w5.heap.size w5 wq)) (fun _ v13 _ => (names st'.m).length - (intOf v13).toNat)
        case atStart => exact ⟨0, Nat.zero_le _, by rw [psum_zero, Int.add_zero], rfl, ⟨Below.refl _ _⟩⟩
        case round =>
          obtain ⟨j, hj, rfl, rfl, HQ⟩ := hrel
          by_cases hjn : j < (names st'.m).length
          · obtain ⟨ad2, rfl, qs⟩ := C_str (Kd.C_below HC5.out HQ.out) hjn
            have hmem : (names st'.m)[j] ∈ names st'.m := List.getElem_mem hjn
            have hsz := size_in ND.out hmem
            have hps := psum_succ st'.m j hjn
            have hp0 := psum_le ND.out j
            have hp1 := psum_le ND.out (j + 1)
            have hks : (names st'.m)[j].size ≤ 9223372036854775807 := by
              obtain ⟨p, hp, e⟩ := names_mem hmem
              rw [← e]
              exact Nat.le_trans (I3.out.keys p hp) (by decide)
            generalize (names st'.m)[j] = s at qs hmem hsz hps hks
            generalize psum st'.m j = pj at hps hp0 ⊢
            obtain ⟨pj1, hpj1⟩ : ∃ pj1, psum st'.m (j + 1) = pj1 := ⟨_, rfl⟩
            rw [hpj1] at hps hp1
            have hle := HLE.out
            have hsum : IntKind.i64.wrap (lf + pj + ((fileIn st'.m s).b.size : Int)) = lf + pj1 := by rw [IntWalk.i64_in _ (by omega), hps, Int.add_assoc]
            clear hle hps
            go_wp2_with fail
            refine (disk_Size.calls wr _ d st' (H5.out.below HQ.out) s hks).mono ?_
            rintro e w6 ⟨rfl, b6⟩
            have B6 := Aside0.mk (HQ.out.trans (b6.mono HQ.out.size))
            clear b6
            rw [hsz]
            simp only
            go_wp2_with fail
            go_roundw
            case rel => exact ⟨j + 1, by omega, by rw [hpj1], by go_num, B6⟩
            case measure => simp [intOf]; omega
          · have hjj : j = (names st'.m).length := by omega
            subst hjj
            have hle := HLE.out
            have hend : lf + psum st'.m (names st'.m).length = room := by rw [psum_all ND.out]; omega
            have hneg : decide (lf < 0) = false := decide_eq_false (by omega)
            rw [hend]
            clear hend hle
            go_wp2_with fail
            refine (disk_Left.calls _ _ d st' (H5.out.below HQ.out) (by rw [hR3]; omega)).mono ?_
            rintro e w7 ⟨rfl, b7⟩
            have H7 := Aside0.mk ((H5.out.below HQ.out).below b7)
            have B7 := Aside0.mk ((B5.out.trans (HQ.out.mono B5.out.size)).trans (b7.mono (by have := HQ.out.size; have := B5.out.size; omega)))
            rw [hlf]
            clear b7
            go_wp2_with fail
            go_roundw
            case rel => exact ⟨k + 1, st', by omega, by go_num, I3, H7, B7⟩
            case measure => simp [intOf]; omega
      have d4 : (x0 == 4) = false := beq_eq_false_iff_ne.2 g4
      have d5 : (x0 == 5) = false := beq_eq_false_iff_ne.2 g5
      have d6 : (x0 == 6) = false := beq_eq_false_iff_ne.2 g6
      go_wp2_with fail
      refine (disk_Append.calls w2 _ d st T2.out x2 y1 x4 (by rw [HI.out.hroom]; omega) (by have := HI.out.fileOf hr1.2 x2; omega)).mono ?_
      rintro e w3 ⟨rfl, h3, f3⟩
      obtain ⟨st', c, hap, i3, hcc⟩ := HI.out.append HND.out hr1.2 x2 x4
      rw [hap] at h3
      simp only [hap]
      have I3 := Aside0.mk i3
      have H3 := Aside0.mk (show DskAt w3 (up' w.heap.size) d st' from h3.mono fun i _ hi => hi.elim (hTB i) (Nat.le_trans hwz))
      have B3 := Aside0.mk (B2'.out.trans (f3.below hwz fun i _ hi => hTB i hi))
      have K3 := Aside0.mk (f3.keeps K2.out (by rintro (e | e); exact hdb e; exact hmb e))
      clear h3 f3 c0 e1 e2 e3 e4 e5 fr K2 i3 hap
      obtain ⟨c0, e1, e2, e3, e4, e5, fr⟩ := cells6 K3.out
      by_cases g7 : c = 6
      · subst g7
        have hlt : st.left < (x4.size : Int) := by rcases hcc with h | ⟨_, h⟩; exact absurd rfl h; exact h
        have d7 : decide ((x4.size : Int) ≤ st.left) = false := decide_eq_false (by omega)
        go_wp2_with fail
        clear c0 e1 e2 e3 e4 e5 fr K3
        go_wp2_with fail
        have hr3 := HR.out
        have hR3 := I3.out.hroom
        have hL3 := I3.out.len
        refine (disk_Left.calls w3 _ d st' H3.out (by rw [hR3]; omega)).mono ?_
        rintro e w4 ⟨rfl, b4⟩
        have H4 := Aside0.mk (H3.out.below b4)
        have B4 := Aside0.mk (B3.out.trans (b4.mono B3.out.size))
        clear b4 H3 B3
        go_wp2_with fail
        refine (disk_List.calls w4 _ d st' H4.out (by omega)).mono ?_
        rintro e w5 ⟨v, rfl, hR, b5⟩
        obtain ⟨A2, cc, rfl, hcc2, hC⟩ := Kd.R_reads hR
        have hnl : (names st'.m).length ≤ 61 := by unfold names; rw [sorted_length, List.length_map]; omega
        have HC5 := Aside0.mk hC
        have H5 := Aside0.mk (H4.out.below b5)
        have B5 := Aside0.mk (B4.out.trans (b5.mono B4.out.size))
        have ND := Aside0.mk (DskAt.nodup H4.out)
        have htot := I3.out.tot
        have hle := I3.out.left hr3.2
        have htn3 := total_nonneg st'.m
        clear b5 hR hC H4 B4
        obtain ⟨lf, hlf⟩ : ∃ lf, st'.left = lf := ⟨_, rfl⟩
        rw [hlf] at hle ⊢
        have HLE := Aside0.mk hle
        clear hle
        go_wp2_with fail
        go_loopw [11, 13] (fun v11 v13 wq => ∃ j : Nat, j ≤ (names st'.m).length ∧ v11 = .int .i64 (lf + psum st'.m j) ∧ v13 = .int .i64 j ∧ Aside0 (Below w5.heap.size w5 wq)) (fun _ v13 _ => (names st'.m).length - (intOf v13).toNat)
        case atStart => exact ⟨0, Nat.zero_le _, by rw [psum_zero, Int.add_zero], rfl, ⟨Below.refl _ _⟩⟩
        case round =>
          obtain ⟨j, hj, rfl, rfl, HQ⟩ := hrel
          by_cases hjn : j < (names st'.m).length
          · obtain ⟨ad2, rfl, qs⟩ := C_str (Kd.C_below HC5.out HQ.out) hjn
            have hmem : (names st'.m)[j] ∈ names st'.m := List.getElem_mem hjn
            have hsz := size_in ND.out hmem
            have hps := psum_succ st'.m j hjn
            have hp0 := psum_le ND.out j
            have hp1 := psum_le ND.out (j + 1)
            have hks : (names st'.m)[j].size ≤ 9223372036854775807 := by
              obtain ⟨p, hp, e⟩ := names_mem hmem
              rw [← e]
              exact Nat.le_trans (I3.out.keys p hp) (by decide)
            generalize (names st'.m)[j] = s at qs hmem hsz hps hks
            generalize psum st'.m j = pj at hps hp0 ⊢
            obtain ⟨pj1, hpj1⟩ : ∃ pj1, psum st'.m (j + 1) = pj1 := ⟨_, rfl⟩
            rw [hpj1] at hps hp1
            have hle := HLE.out
            have hsum : IntKind.i64.wrap (lf + pj + ((fileIn st'.m s).b.size : Int)) = lf + pj1 := by rw [IntWalk.i64_in _ (by omega), hps, Int.add_assoc]
            clear hle hps
            go_wp2_with fail
            refine (disk_Size.calls wr _ d st' (H5.out.below HQ.out) s hks).mono ?_
            rintro e w6 ⟨rfl, b6⟩
            have B6 := Aside0.mk (HQ.out.trans (b6.mono HQ.out.size))
            clear b6
            rw [hsz]
            simp only
            go_wp2_with fail
            go_roundw
            case rel => exact ⟨j + 1, by omega, by rw [hpj1], by go_num, B6⟩
            case measure => simp [intOf]; omega
          · have hjj : j = (names st'.m).length := by omega
            subst hjj
            have hle := HLE.out
            have hend : lf + psum st'.m (names st'.m).length = room := by rw [psum_all ND.out]; omega
            have hneg : decide (lf < 0) = false := decide_eq_false (by omega)
            rw [hend]
            clear hend hle
            go_wp2_with fail
            refine (disk_Left.calls _ _ d st' (H5.out.below HQ.out) (by rw [hR3]; omega)).mono ?_
            rintro e w7 ⟨rfl, b7⟩
            have H7 := Aside0.mk ((H5.out.below HQ.out).below b7)
            have B7 := Aside0.mk ((B5.out.trans (HQ.out.mono B5.out.size)).trans (b7.mono (by have := HQ.out.size; have := B5.out.size; omega)))
            rw [hlf]
            clear b7
            go_wp2_with fail
            go_roundw
            case rel => exact ⟨k + 1, st', by omega, by go_num, I3, H7, B7⟩
            case measure => simp [intOf]; omega
      have d7 : (c == 6) = false := beq_eq_false_iff_ne.2 g7
      go_wp2_with fail
      clear c0 e1 e2 e3 e4 e5 fr K3
      go_wp2_with fail
      have hr3 := HR.out
      have hR3 := I3.out.hroom
      have hL3 := I3.out.len
      refine (disk_Left.calls w3 _ d st' H3.out (by rw [hR3]; omega)).mono ?_
      rintro e w4 ⟨rfl, b4⟩
      have H4 := Aside0.mk (H3.out.below b4)
      have B4 := Aside0.mk (B3.out.trans (b4.mono B3.out.size))
      clear b4 H3 B3
      go_wp2_with fail
      refine (disk_List.calls w4 _ d st' H4.out (by omega)).mono ?_
      rintro e w5 ⟨v, rfl, hR, b5⟩
      obtain ⟨A2, cc, rfl, hcc2, hC⟩ := Kd.R_reads hR
      have hnl : (names st'.m).length ≤ 61 := by unfold names; rw [sorted_length, List.length_map]; omega
      have HC5 := Aside0.mk hC
      have H5 := Aside0.mk (H4.out.below b5)
      have B5 := Aside0.mk (B4.out.trans (b5.mono B4.out.size))
      have ND := Aside0.mk (DskAt.nodup H4.out)
      have htot := I3.out.tot
      have hle := I3.out.left hr3.2
      have htn3 := total_nonneg st'.m
      clear b5 hR hC H4 B4
      obtain ⟨lf, hlf⟩ : ∃ lf, st'.left = lf := ⟨_, rfl⟩
      rw [hlf] at hle ⊢
      have HLE := Aside0.mk hle
      clear hle
      go_wp2_with fail
      go_loopw [11, 13] (fun v11 v13 wq => ∃ j : Nat, j ≤ (names st'.m).length ∧ v11 = .int .i64 (lf + psum st'.m j) ∧ v13 = .int .i64 j ∧ Aside0 (Below w5.heap.size w5 wq)) (fun _ v13 _ => (names st'.m).length - (intOf v13).toNat)
      case atStart => exact ⟨0, Nat.zero_le _, by rw [psum_zero, Int.add_zero], rfl, ⟨Below.refl _ _⟩⟩
      case round =>
        obtain ⟨j, hj, rfl, rfl, HQ⟩ := hrel
        by_cases hjn : j < (names st'.m).length
        · obtain ⟨ad2, rfl, qs⟩ := C_str (Kd.C_below HC5.out HQ.out) hjn
          have hmem : (names st'.m)[j] ∈ names st'.m := List.getElem_mem hjn
          have hsz := size_in ND.out hmem
          have hps := psum_succ st'.m j hjn
          have hp0 := psum_le ND.out j
          have hp1 := psum_le ND.out (j + 1)
          have hks : (names st'.m)[j].size ≤ 9223372036854775807 := by
            obtain ⟨p, hp, e⟩ := names_mem hmem
            rw [← e]
            exact Nat.le_trans (I3.out.keys p hp) (by decide)
          generalize (names st'.m)[j] = s at qs hmem hsz hps hks
          generalize psum st'.m j = pj at hps hp0 ⊢
          obtain ⟨pj1, hpj1⟩ : ∃ pj1, psum st'.m (j + 1) = pj1 := ⟨_, rfl⟩
          rw [hpj1] at hps hp1
          have hle := HLE.out
          have hsum : IntKind.i64.wrap (lf + pj + ((fileIn st'.m s).b.size : Int)) = lf + pj1 := by rw [IntWalk.i64_in _ (by omega), hps, Int.add_assoc]
          clear hle hps
          go_wp2_with fail
          refine (disk_Size.calls wr _ d st' (H5.out.below HQ.out) s hks).mono ?_
          rintro e w6 ⟨rfl, b6⟩
          have B6 := Aside0.mk (HQ.out.trans (b6.mono HQ.out.size))
          clear b6
          rw [hsz]
          simp only
          go_wp2_with fail
          go_roundw
          case rel => exact ⟨j + 1, by omega, by rw [hpj1], by go_num, B6⟩
          case measure => simp [intOf]; omega
        · have hjj : j = (names st'.m).length := by omega
          subst hjj
          have hle := HLE.out
          have hend : lf + psum st'.m (names st'.m).length = room := by rw [psum_all ND.out]; omega
          have hneg : decide (lf < 0) = false := decide_eq_false (by omega)
          rw [hend]
          clear hend hle
          go_wp2_with fail
          refine (disk_Left.calls _ _ d st' (H5.out.below HQ.out) (by rw [hR3]; omega)).mono ?_
          rintro e w7 ⟨rfl, b7⟩
          have H7 := Aside0.mk ((H5.out.below HQ.out).below b7)
          have B7 := Aside0.mk ((B5.out.trans (HQ.out.mono B5.out.size)).trans (b7.mono (by have := HQ.out.size; have := B5.out.size; omega)))
          rw [hlf]
          clear b7
          go_wp2_with fail
          go_roundw
          case rel => exact ⟨k + 1, st', by omega, by go_num, I3, H7, B7⟩
          case measure => simp [intOf]; omega
    · have hkk : k = n := by omega
      subst hkk
      go_wp2_with fail
      go_ret
      exact ⟨rfl, HB.out⟩
end Go.Proofs.Ytpmnljdhjgjgfaa.Thw
