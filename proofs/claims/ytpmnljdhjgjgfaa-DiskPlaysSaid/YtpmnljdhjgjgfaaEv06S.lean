/- Layer 6: DiskSure's walk. -/
import Derived.Test.YtpmnljdhjgjgfaaEv06L
namespace Go.Proofs.Ytpmnljdhjgjgfaa.Thw
open Go Go.RowKit Go.Proofs.YtpmnljdhjgjgfaaW.PrintWords Go.Proofs.YtpmnljdhjgjgfaaW.PrintLast Go.Proofs.YtpmnljdhjgjgfaaW.PrintMore
attribute [local go_sem] max2_int min2_int max_two min_two
set_option linter.unusedVariables false
set_option linter.unusedSimpArgs false
abbrev Fk : ByteArray := ⟨#[102]⟩
def dk (m : Fls) : Dsk := ⟨100000, m, -1, false⟩
theorem dk_burn (m : Fls) : (dk m).burn = (dk m, 0) := by
  have : mx (wrap64 (-2)) (-1) = -1 := by kernel_rfl
  simp [Dsk.burn, dk, this]
/-- What one file in the disk says. -/
def One (m : Fls) (full : ByteArray) (s : Nat) : Prop := (m = [] ∧ full = ⟨#[]⟩ ∧ s = 0) ∨ m = [(Fk, ⟨full, s⟩)]
theorem One.total {m : Fls} {full : ByteArray} {s : Nat} (h : One m full s) : total m = full.size := by
  rcases h with ⟨rfl, rfl, _⟩ | rfl
  · rfl
  · simp [Thw.total]
theorem One.file {m : Fls} {full : ByteArray} {s : Nat} (h : One m full s) : (dk m).fileOf Fk = ⟨full, s⟩ := by
  rcases h with ⟨rfl, rfl, rfl⟩ | rfl
  · rfl
  · simp [Dsk.fileOf, dk, look]
theorem One.put {m : Fls} {full : ByteArray} {s : Nat} (h : One m full s) (f : DFile) : put m Fk f = [(Fk, f)] := by
  rcases h with ⟨rfl, rfl, rfl⟩ | rfl
  · rfl
  · simp [Thw.put]
theorem One.append {m : Fls} {full : ByteArray} {s : Nat} (h : One m full s) (x : ByteArray) (hs : full.size + x.size ≤ 100000) : (dk m).append Fk x = (dk [(Fk, ⟨full ++ x, s⟩)], 0) := by
  have hr : right Fk = true := by kernel_rfl
  have hl : (dk m).left = 100000 - (full.size : Int) := by
    unfold Dsk.left
    rw [show (dk m).m = m from rfl, h.total, show (dk m).room = 100000 from rfl]
    unfold wrap64; omega
  unfold Dsk.append
  rw [hr, if_neg (by decide), dk_burn, if_neg (by simp)]
  simp only
  rw [hl, if_neg (by omega), h.file, show (dk m).m = m from rfl, h.put]
  rfl
theorem sync_one (full : ByteArray) (s : Int) : (dk [(Fk, ⟨full, s⟩)]).sync Fk = (dk [(Fk, ⟨full, full.size⟩)], 0) := by
  have hl : look (dk [(Fk, ⟨full, s⟩)]).m Fk = some ⟨full, s⟩ := by simp [dk, look]
  unfold Dsk.sync Dsk.change
  rw [hl]
  simp only [if_true]
  rw [dk_burn]
  simp [updSync, dk, put]
theorem crash_one (f : DFile) (kept : List Int) : (dk [(Fk, f)]).crash kept = dk [(Fk, crashF kept 0 f)] := by
  unfold Dsk.crash
  rw [show (dk [(Fk, f)]).m = [(Fk, f)] from rfl, names_one]
  simp [crashM, fileIn, look, put, dk]
set_option maxHeartbeats 6400000 in
set_option maxRecDepth 100000 in
theorem sure_walk (A0 : Option Addr) (c0 : Nat) (l0 : List ByteArray) (A1 : Option Addr) (c1 : Nat) (l1 : List Bool) (kept : Int) (w : World) (hr0 : Kd.string.C w A0 l0.length l0) (hc0 : l0.length ≤ c0) (hr1 : Kd.bool.C w A1 l1.length l1) (hc1 : l1.length ≤ c1) :
    Calls Try.prog 3 #[.slice A0 l0.length c0, .slice A1 l1.length c1, .int .i64 kept] w fun e w' => e = .returned (.bool true) ∧ Below w.heap.size w w' := by
  have R0 := Aside0.mk hr0
  have R1 := Aside0.mk hr1
  clear hr0 hr1
  by_cases h30 : 30 < l0.length
  · have d30 : decide ((30 : Int) < (l0.length : Int)) = true := decide_eq_true (by omega)
    go_enter Try.func3, Try.ntmps3
    go_wp2_with fail
    refine (awake06.calls _).mono ?_
    rintro e w1 ⟨rfl, b1⟩
    have B1 := Aside0.mk b1
    clear b1
    go_wp2_with fail
    refine (disk_New.calls 100000 _).mono ?_
    rintro e w2 (⟨hx, _⟩ | ⟨_, d, rfl, h2, b2⟩)
    · exact absurd hx (by omega)
    have B2 := Aside0.mk (B1.out.trans (b2.mono B1.out.size))
    clear h2 b2 B1
    go_wp2_with fail
    go_ret
    exact ⟨rfl, B2.out⟩
  by_cases hlt : l1.length < l0.length
  · have d30 : decide ((30 : Int) < (l0.length : Int)) = false := decide_eq_false (by omega)
    have dlt : decide (l1.length < l0.length) = true := decide_eq_true hlt
    go_enter Try.func3, Try.ntmps3
    go_wp2_with fail
    refine (awake06.calls _).mono ?_
    rintro e w1 ⟨rfl, b1⟩
    have B1 := Aside0.mk b1
    clear b1
    go_wp2_with fail
    refine (disk_New.calls 100000 _).mono ?_
    rintro e w2 (⟨hx, _⟩ | ⟨_, d, rfl, h2, b2⟩)
    · exact absurd hx (by omega)
    have B2 := Aside0.mk (B1.out.trans (b2.mono B1.out.size))
    clear h2 b2 B1
    go_wp2_with fail
    go_ret
    exact ⟨rfl, B2.out⟩
  have d30 : decide ((30 : Int) < (l0.length : Int)) = false := decide_eq_false (by omega)
  have dlt : decide (l1.length < l0.length) = false := decide_eq_false hlt
  go_enter Try.func3, Try.ntmps3
  go_wp2_with fail
  refine (awake06.calls _).mono ?_
  rintro e w1 ⟨rfl, b1⟩
  have B1 := Aside0.mk b1
  clear b1
  go_wp2_with fail
  refine (disk_New.calls 100000 _).mono ?_
  rintro e w2 (⟨hx, _⟩ | ⟨_, d, rfl, h2, b2⟩)
  · exact absurd hx (by omega)
  have H2 := Aside0.mk (h2.mono (A' := up' w.heap.size) fun k _ hk => Nat.le_trans B1.out.size hk)
  have B2 := Aside0.mk (B1.out.trans (b2.mono B1.out.size))
  clear h2 b2 B1
  go_wp2_with fail
  go_loopw [10, 11, 12] (fun v10 v11 v12 wr => ∃ (k : Nat) (full : ByteArray) (s : Nat) (m : Fls), k ≤ l0.length ∧ v12 = .int .i64 k ∧ v10 = .string full ∧ v11 = .int .i64 s ∧ Aside0 (One m full s) ∧ Aside0 (s ≤ full.size) ∧ Aside0 (full.size ≤ 300 * k) ∧ Aside0 (0 < k → m = [(Fk, ⟨full, s⟩)]) ∧ Aside0 (DskAt wr (up' w.heap.size) d (dk m)) ∧ Aside0 (Below w.heap.size w wr)) (fun _ _ v12 _ => l0.length - (intOf v12).toNat)
  case atStart => exact ⟨0, ⟨#[]⟩, 0, [], Nat.zero_le _, rfl, rfl, rfl, ⟨Or.inl ⟨rfl, rfl, rfl⟩⟩, ⟨Nat.zero_le _⟩, ⟨by decide⟩, ⟨fun h => absurd h (by decide)⟩, H2, B2⟩
  case round =>
    obtain ⟨k, full, s, m, hk, rfl, rfl, rfl, HO, HS, HF, HM, HD, HB⟩ := hrel
    by_cases hkn : k < l0.length
    · obtain ⟨ad0, rfl, q0⟩ := C_str (Kd.C_below R0.out HB.out) hkn
      obtain ⟨ad1, rfl, q1⟩ := Kd.at_bool (Kd.C_below R1.out HB.out) (k : Int) (by omega) (by omega)
      rw [Int.toNat_natCast] at q1
      obtain ⟨sy, hsy⟩ : ∃ sy, rdOf false l1 (k : Int) = sy := ⟨_, rfl⟩
      obtain ⟨x, hx⟩ : ∃ x, l0[k] = x := ⟨_, rfl⟩
      rw [hx] at q0
      rw [hsy] at q1
      have HX := Aside0.mk hx
      have HSY := Aside0.mk hsy
      clear hx hsy
      have hk1 : k < l1.length := by omega
      have hfs := HF.out
      by_cases h300 : 300 < x.size
      · have d3 : decide ((300 : Int) < (x.size : Int)) = true := decide_eq_true (by omega)
        go_wp2_with fail
        go_ret
        exact ⟨rfl, HB.out⟩
      have d3 : decide ((300 : Int) < (x.size : Int)) = false := decide_eq_false (by omega)
      have hsum : full.size + x.size ≤ 9223372036854775807 := by omega
      have E1 := Aside0.mk (HO.out.append x (by omega))
      have HFX := Aside0.mk (show (full ++ x).size ≤ 300 * (k + 1) by rw [ByteArray.size_append]; omega)
      have HSX := Aside0.mk (show s ≤ (full ++ x).size by rw [ByteArray.size_append]; have := HS.out; omega)
      go_wp2_with fail
      refine (disk_Append.calls _ (up' w.heap.size) d _ HD.out _ (by decide) _ ⟨by show (-9223372036854775808 : Int) ≤ 100000; decide, by show (100000 : Int) ≤ 9223372036854775807; decide⟩ (by rw [HO.out.file]; exact hsum)).mono ?_
      rintro e w3 ⟨rfl, h3, f3⟩
      rw [E1.out] at h3
      simp only [E1.out]
      have H3 := Aside0.mk (DskAt.base h3 HB.out.size)
      have B3 := Aside0.mk (HB.out.trans (f3.up HB.out.size))
      clear h3 f3 q0 q1
      obtain ⟨_, e0, q0⟩ := C_str (Kd.C_below R0.out B3.out) hkn
      cases e0
      obtain ⟨_, e0, q1⟩ := Kd.at_bool (Kd.C_below R1.out B3.out) (k : Int) (by omega) (by omega)
      cases e0
      rw [Int.toNat_natCast, HSY.out] at q1
      rw [HX.out] at q0
      cases sy with
      | false =>
        go_wp2_with fail
        go_roundw
        case rel => exact ⟨k + 1, full ++ x, s, _, by omega, by go_num, rfl, rfl, ⟨Or.inr rfl⟩, HSX, HFX, ⟨fun _ => rfl⟩, H3, B3⟩
        case measure => simp [intOf]; omega
      | true =>
        go_wp2_with fail
        refine (disk_Sync.calls _ (up' w.heap.size) d _ H3.out _ (by decide)).mono ?_
        rintro e w4 ⟨rfl, h4, f4⟩
        rw [sync_one] at h4
        simp only [sync_one]
        have H4 := Aside0.mk (DskAt.base h4 B3.out.size)
        have B4 := Aside0.mk (B3.out.trans (f4.up B3.out.size))
        clear h4 f4 q0 q1
        go_wp2_with fail
        go_roundw
        case rel => exact ⟨k + 1, full ++ x, (full ++ x).size, _, by omega, by go_num, rfl, by simp, ⟨Or.inr rfl⟩, ⟨Nat.le_refl _⟩, HFX, ⟨fun _ => rfl⟩, H4, B4⟩
        case measure => simp [intOf]; omega
    · have hkk : k = l0.length := by omega
      subst hkk
      by_cases h0 : l0.length = 0
      · have dz : ((l0.length : Int) == 0) = true := by rw [h0]; rfl
        go_wp2_with fail
        go_ret
        exact ⟨rfl, HB.out⟩
      have dz : ((l0.length : Int) == 0) = false := beq_eq_false_iff_ne.2 (by omega)
      obtain rfl := HM.out (by omega)
      obtain ⟨z1, hz1⟩ : ∃ z1, mx kept 0 = z1 := ⟨_, rfl⟩
      obtain ⟨z2, hz2⟩ : ∃ z2, mn z1 ((full.size : Int) - s) = z2 := ⟨_, rfl⟩
      have hgf : GoodF ⟨full, s⟩ := ⟨by simp, by have := HS.out; simp; omega, by have := HF.out; simp; omega⟩
      have hcn : crashN [kept] 0 ⟨full, s⟩ = z2 := by simp [crashN, hz1, hz2]
      have hrn := crashN_range [kept] 0 _ hgf
      rw [hcn] at hrn
      simp only at hrn
      have hf2 : crashF [kept] 0 ⟨full, s⟩ = ⟨full.extract 0 ((s : Int) + z2).toNat, (s : Int) + z2⟩ := by unfold crashF; rw [hcn]
      have hg2 : GoodF ⟨full.extract 0 ((s : Int) + z2).toNat, (s : Int) + z2⟩ := by rw [← hf2]; exact good_crashF _ _ _ hgf
      have hf3 : crashF [] 0 ⟨full.extract 0 ((s : Int) + z2).toNat, (s : Int) + z2⟩ = ⟨full.extract 0 ((s : Int) + z2).toNat, (s : Int) + z2⟩ := by
        have e1 : (full.extract 0 ((s : Int) + z2).toNat).size = ((s : Int) + z2).toNat := by rw [ByteArray.size_extract]; omega
        have e2 : (full.extract 0 ((s : Int) + z2).toNat).extract 0 ((s : Int) + z2).toNat = full.extract 0 ((s : Int) + z2).toNat := by
          conv => lhs; arg 3; rw [← e1]
          exact ByteArray.extract_zero_size
        simp only [crashF, crashN, List.length_nil, Nat.not_lt_zero, if_false, Int.add_zero, e2]
      have hfs := HF.out
      have hy1 : (if kept < 0 then 0 else kept) = z1 := hz1
      have hy2 : (if (full.size : Int) - (s : Int) < z1 then (full.size : Int) - (s : Int) else z1) = z2 := hz2
      have hsub : IntKind.i64.wrap ((full.size : Int) - s) = (full.size : Int) - s := IntWalk.i64_in _ (by have := HS.out; omega)
      have HF2 := Aside0.mk hf2
      have HF3 := Aside0.mk hf3
      have HGF := Aside0.mk hgf
      have HG2 := Aside0.mk hg2
      have p1 : 0 ≤ (s : Int) + z2 := by omega
      have p2 : (s : Int) + z2 ≤ (full.size : Int) := by omega
      have p3 : (s : Int) ≤ (full.size : Int) := by have := HS.out; omega
      clear hcn hf2 hf3 hgf hg2 hz1 hz2
      go_wp2_with fail
      obtain ⟨mb, t5, _, a2, l1', l2', hsep⟩ := (HD.out.alloc (.cells #[.int .i64 kept] 3)).tight
      have hblk := blk_new wr (.cells #[.int .i64 kept] 3)
      have hs2 := hsep hblk (by decide)
      refine (disk_Crash.calls _ _ d _ t5 (fun k hk => by rcases hk with rfl | rfl <;> assumption) (by show 1 ≤ 1000000; decide) (by intro p hp; simp only [dk, List.mem_singleton] at hp; subst hp; exact HGF.out) (by rw [show (dk [(Fk, ⟨full, s⟩)]).m = [(Fk, ⟨full, s⟩)] from rfl, names_one]; intro x hx; simp only [List.mem_singleton] at hx; subst hx; decide) (some ⟨wr.heap.size, 0, none⟩) 1 [kept] (fun W hF => C_of_block [kept] (hF.keeps hblk (by rintro (e | e); exact hs2.1 e; exact hs2.2 e)) (by simp)) (Nat.le_refl _)).mono ?_
      rintro e w5 ⟨rfl, h5, f5⟩
      rw [crash_one, HF2.out] at h5
      have H5 := Aside0.mk (h5.mono (A' := up' w.heap.size) (fun k _ hk => by rcases hk with rfl | rfl <;> assumption))
      have B5 := Aside0.mk ((HB.out.alloc HB.out.size _).trans (f5.below (by have := HB.out.size; simp; omega) (fun k _ hk => by rcases hk with rfl | rfl <;> assumption)))
      clear h5 f5 t5 a2 l1' l2' hsep hblk hs2
      have GG := Aside0.mk (show GoodM (dk [(Fk, ⟨full.extract 0 ((s : Int) + z2).toNat, (s : Int) + z2⟩)]).m by intro p hp; simp only [dk, List.mem_singleton] at hp; subst hp; exact HG2.out)
      have FI := Aside0.mk (show (fileIn (dk [(Fk, ⟨full.extract 0 ((s : Int) + z2).toNat, (s : Int) + z2⟩)]).m Fk).b = full.extract 0 ((s : Int) + z2).toNat by simp [fileIn, dk, look])
      go_wp2_with fail
      refine (all06.calls _ (up' w.heap.size) d _ H5.out GG.out _ (by decide)).mono ?_
      rintro e w6 ⟨rfl, b6⟩
      rw [FI.out]
      have H6 := Aside0.mk (H5.out.below b6)
      have B6 := Aside0.mk (B5.out.trans (b6.mono B5.out.size))
      clear b6
      go_wp2_with fail
      obtain ⟨mb, t7, _, a2, l1', l2', _⟩ := H6.out.tight
      refine (disk_Crash.calls _ _ d _ t7 (fun k hk => by rcases hk with rfl | rfl <;> assumption) (by show 1 ≤ 1000000; decide) GG.out (by rw [show (dk [(Fk, ⟨full.extract 0 ((s : Int) + z2).toNat, (s : Int) + z2⟩)]).m = [(Fk, ⟨full.extract 0 ((s : Int) + z2).toNat, (s : Int) + z2⟩)] from rfl, names_one]; intro x hx; simp only [List.mem_singleton] at hx; subst hx; decide) none 0 [] (fun W _ => C_none W) (Nat.le_refl _)).mono ?_
      rintro e w7 ⟨rfl, h7, f7⟩
      rw [crash_one, HF3.out] at h7
      have H7 := Aside0.mk (h7.mono (A' := up' w.heap.size) (fun k _ hk => by rcases hk with rfl | rfl <;> assumption))
      have B7 := Aside0.mk (B6.out.trans (f7.below B6.out.size (fun k _ hk => by rcases hk with rfl | rfl <;> assumption)))
      clear h7 f7 t7 a2 l1' l2'
      go_wp2_with fail
      refine (all06.calls _ (up' w.heap.size) d _ H7.out GG.out _ (by decide)).mono ?_
      rintro e w8 ⟨rfl, b8⟩
      rw [FI.out]
      have B8 := Aside0.mk (B7.out.trans (b8.mono B7.out.size))
      clear b8
      go_wp2_with fail
      go_ret
      exact ⟨by simp, B8.out⟩
end Go.Proofs.Ytpmnljdhjgjgfaa.Thw
