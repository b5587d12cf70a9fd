/- Layer 12: ManifestBack's walk (printed by gen12.py). -/
import Derived.Test.YtgampcbjmdgciaaDoorEv12e
import Derived.Test.YtgampcbjmdgciaaDoorEv12i
import Derived.Test.YtgampcbjmdgciaaDoorWTab
import Derived.Deep.CutRange
import Derived.Deep.CutBlock
namespace Go.Proofs.YtgampcbjmdgciaaDoor.Thw
open Go Go.RowKit Go.Proofs.YtgampcbjmdgciaaDoor.Print Go.Proofs.YtgampcbjmdgciaaDoorW.PrintWords Go.Proofs.YtgampcbjmdgciaaDoorW.PrintLast Go.Proofs.YtgampcbjmdgciaaDoorW.PrintMore
set_option linter.unusedVariables false
set_option linter.unusedSimpArgs false
theorem region_draw {P : Program} {ops : Array Oper} {Q : Exit → Act → World → Prop} {S : World → Prop} {ds : List Nat} {id n : Nat} {a : Act} {w : World} (l : Array Bool) (hm : P.follows .mixedOrders = true) (hn : ops.size = n) (hl : Array.replicate n false = l)
    (F : World → Prop) (hF : F w.drew) (hFS : ∀ W, F W → S W) (h : ∀ W, F W → wpAnyLast P .any ops Q S ds n l a W) : (Code.region id ops true).wp P Q a w := start_ l hm hn hl (hFS _ hF) (fun _ => h _ hF)
def back6T : Bool × List (List Nat × List Nat) := (true, [([], []), ([0], [0]), ([], []), ([2, 1], [2]), ([1, 3, 3], [1, 3]), ([4, 4, 0, 1, 2, 3, 4], [4])])
def back6B : List Nat := [0, 1, 0, 7, 15, 31]
theorem back6tab : rtab .any (opsOf Tryd.f5 6) = back6T := by kernel_rfl
theorem back6bits : waitsOk back6T.2 back6B = true := by kernel_rfl

theorem back_two {b : ByteArray} {w w' : World} {e : Ending} (h : ReadPost (L b) w e w') : ∃ (v2 : Int) (l2 : List SgI) (A2 : Option Addr) (c2 : Nat) (er2 : Int), e = .returned (.tuple #[.agg #[.int .i64 v2, .slice A2 l2.length c2], .int .i64 er2]) ∧ Kd.C k46 w' A2 l2.length l2 ∧ l2.length ≤ 1000 ∧ l2.length ≤ c2 ∧ (∀ x ∈ l2, U32 x) ∧ (er2 = 0 → (bytesR v2 l2).2 = 0 ∧ (bytesR v2 l2).1 = b) := by
  rcases h.2 with ⟨vn, ln, An, cn, h1, rfl, hR⟩ | ⟨en, h1, rfl⟩
  · obtain ⟨hb1, hb2, hb3, _⟩ := readR_of h1
    obtain ⟨h3, h4, h5⟩ := Kd.R_reads' hR
    have hlen := (rightB_of hb2).2.2.1
    refine ⟨(vn : Nat), ln.map mkSg, An, cn, 0, by rw [List.length_map], h5, by omega, by rw [List.length_map]; exact h4, fun x hx => ?_, fun _ => ?_⟩
    · obtain ⟨p, hp, rfl⟩ := List.mem_map.1 hx
      have := (hb3 p hp).2.2
      unfold U32 mkSg
      simp only
      omega
    · unfold bytesR
      rw [if_pos hb2, map_un_mk, Int.toNat_natCast, ← hb1]
      exact ⟨rfl, B_L b⟩
  · refine ⟨0, [], none, 0, en, rfl, Kd.C_nil _ _, by simp, Nat.le_refl _, fun x hx => (List.not_mem_nil hx).elim, fun h0 => ?_⟩
    exfalso
    unfold readR at h1
    split at h1
    · split at h1
      · cases h1
      · simp only [Prod.mk.injEq, true_and] at h1
        omega
    · simp only [Prod.mk.injEq, true_and] at h1
      omega
set_option maxRecDepth 100000 in
set_option maxHeartbeats 12800000 in
theorem back_walk (v : Int) (l : List SgI) (A : Option Addr) (c : Nat) (b : ByteArray) (w : World) (hL : LaidW w) (hC : Kd.C k46 w A l.length l) (hc : l.length ≤ c) (hu : ∀ x ∈ l, U32 x) :
    Calls Tryd.prog 5 #[.agg #[.int .i64 v, .slice A l.length c], .string b] w fun e w' => e = .returned (.bool true) ∧ Below w.heap.size w w' := by
  have HL := Aside0.mk hL
  have CM0 := Aside0.mk hC
  have HLC := Aside0.mk hc
  have HU := Aside0.mk hu
  clear hL hC hc hu
  go_enter Tryd.func5, Tryd.ntmps5
  go_wp2_with fail
  have L1 := Aside0.mk (HL.out.below ((Below.refl w.heap.size w).alloc (Nat.le_refl _) (.cells #[.int .i64 v, .slice A l.length c] 24)))
  refine (awake12.calls _ L1.out).mono ?_
  rintro e w1 ⟨rfl, b1⟩
  have B1 := Aside0.mk (((Below.refl w.heap.size w).alloc (Nat.le_refl _) (.cells #[.int .i64 v, .slice A l.length c] 24)).trans (b1.mono (by simp)))
  have XM1 := Aside0.mk (blk_below (blk_new w (.cells #[.int .i64 v, .slice A l.length c] 24)) b1)
  clear b1
  obtain ⟨c0, c1, fm⟩ := cells2m XM1.out
  by_cases h1 : 300 < l.length
  · have d1 : decide ((300 : Int) < (l.length : Int)) = true := decide_eq_true (by omega)
    go_wp2_with fail
    go_ret
    exact ⟨rfl, B1.out⟩
  have d1 : decide ((300 : Int) < (l.length : Int)) = false := decide_eq_false (by omega)
  by_cases h2 : 3000 < b.size
  · have d2 : decide ((3000 : Int) < (b.size : Int)) = true := decide_eq_true (by omega)
    go_wp2_with fail
    go_ret
    exact ⟨rfl, B1.out⟩
  have d2 : decide ((3000 : Int) < (b.size : Int)) = false := decide_eq_false (by omega)
  have HLL := Aside0.mk (show l.length ≤ 1000000 by omega)
  have HBS := Aside0.mk (show b.size ≤ 1000000 by omega)
  obtain ⟨q1, hq1⟩ := Ev.rounds (ev_Bytes v l (by omega) HU.out)
  have HQ1 := Aside0.mk hq1
  obtain ⟨x, hx⟩ : ∃ x, (bytesR v l).1 = x := ⟨_, rfl⟩
  obtain ⟨er, her⟩ : ∃ x, (bytesR v l).2 = x := ⟨_, rfl⟩
  have HXE := Aside0.mk (show bytesR v l = (x, er) by rw [← hx, ← her])
  rw [HXE.out] at HQ1
  have HXS := Aside0.mk (show x.size ≤ 1000000 by
    rw [← hx]
    unfold bytesR
    split
    · rename_i hr
      rw [B_size, sealS_length]
      unfold bodyS
      rw [List.length_append, List.length_append]
      have h3 := putS_len v.toNat
      have h4 := putS_len (l.map unSg).length
      have h5 := segsB_len (l.map unSg)
      rw [List.length_map] at h5
      omega
    · decide)
  clear hq1 hx her
  have CM1 := Aside0.mk (Kd.C_below CM0.out B1.out)
  go_wp2_with fail
  refine (manifest_Bytes.calls q1 v A c l _ _ _ CM1.out HLC.out HQ1.out).mono ?_
  rintro e w2 ⟨rfl, b2⟩
  have B2 := Aside0.mk (B1.out.trans (b2.mono B1.out.size))
  have XM2 := Aside0.mk (blk_below XM1.out b2)
  clear b2 XM1 CM1 c0 c1 fm
  go_wp2_with fail
  refine (man_Read.calls x HXS.out w2).mono ?_
  rintro e w3 ⟨b3, hpost⟩
  have B3 := Aside0.mk (B2.out.trans (b3.mono B2.out.size))
  have XM3 := Aside0.mk (blk_below XM2.out b3)
  obtain ⟨v2, l2, A2, c2, er2, rfl, hC2, hl2, hlc2, hRD⟩ : ∃ (v2 : Int) (l2 : List SgI) (A2 : Option Addr) (c2 : Nat) (er2 : Int), e = .returned (.tuple #[.agg #[.int .i64 v2, .slice A2 l2.length c2], .int .i64 er2]) ∧ Kd.C k46 w3 A2 l2.length l2 ∧ l2.length ≤ 1000000 ∧ l2.length ≤ c2 ∧ (er = 0 → er2 = 0 ∧ v = v2 ∧ l = l2) := by
    rcases hpost with ⟨vn, ln, An, cn, h1, rfl, hR⟩ | ⟨en, h1, rfl⟩
    · obtain ⟨hb1, hb2, hb3, _⟩ := readR_of h1
      obtain ⟨h3, h4, h5⟩ := Kd.R_reads' hR
      have hlen := (rightB_of hb2).2.2.1
      refine ⟨(vn : Nat), ln.map mkSg, An, cn, 0, by rw [List.length_map], h5, by omega, by rw [List.length_map]; exact h4, fun h0 => ⟨rfl, ?_⟩⟩
      have hx2 := HXE.out
      unfold bytesR at hx2
      split at hx2
      · rename_i hr
        simp only [Prod.mk.injEq] at hx2
        obtain ⟨hxa, _⟩ := hx2
        obtain ⟨r1, r2, r3, r4⟩ := rightB_of hr
        have hvn : ((v.toNat : Nat) : Int) = v := Int.toNat_of_nonneg (by omega)
        have hmm : (l.map unSg).map mkSg = l := map_mk_un fun y hy => ⟨(r4 y hy).1, (r4 y hy).2.2.1, (HU.out y hy).1⟩
        have hrd := readR_put (v := v.toNat) (l := l.map unSg) (by rw [hvn, hmm]; exact hr) (fun p hp => by
          obtain ⟨y, hy, rfl⟩ := List.mem_map.1 hp
          have := (HU.out y hy).2
          show y.f2.toNat ≤ 4294967295
          omega)
        rw [← hxa, L_B, hrd] at h1
        simp only [Prod.mk.injEq, Option.some.injEq, and_true] at h1
        obtain ⟨rfl, rfl⟩ := h1
        exact ⟨hvn.symm, hmm.symm⟩
      · simp only [Prod.mk.injEq] at hx2
        rw [← hx2.2] at h0
        exact absurd h0 (by decide)
    · refine ⟨0, [], none, 0, en, rfl, Kd.C_nil _ _, by simp, Nat.le_refl _, fun h0 => ?_⟩
      exfalso
      have hx2 := HXE.out
      unfold bytesR at hx2
      split at hx2
      · rename_i hr
        simp only [Prod.mk.injEq] at hx2
        obtain ⟨hxa, _⟩ := hx2
        obtain ⟨r1, r2, r3, r4⟩ := rightB_of hr
        have hvn : ((v.toNat : Nat) : Int) = v := Int.toNat_of_nonneg (by omega)
        have hmm : (l.map unSg).map mkSg = l := map_mk_un fun y hy => ⟨(r4 y hy).1, (r4 y hy).2.2.1, (HU.out y hy).1⟩
        have hrd := readR_put (v := v.toNat) (l := l.map unSg) (by rw [hvn, hmm]; exact hr) (fun p hp => by
          obtain ⟨y, hy, rfl⟩ := List.mem_map.1 hp
          have := (HU.out y hy).2
          show y.f2.toNat ≤ 4294967295
          omega)
        rw [← hxa, L_B, hrd] at h1
        cases h1
      · simp only [Prod.mk.injEq] at hx2
        rw [← hx2.2] at h0
        exact absurd h0 (by decide)
  have C3 := Aside0.mk hC2
  have HL2 := Aside0.mk hl2
  have HC2 := Aside0.mk hlc2
  have HRD := Aside0.mk hRD
  clear b3 hpost XM2 hC2 hl2 hlc2 hRD
  go_upto_region 6 with (fail)
  obtain ⟨wz, hwz⟩ : ∃ wz, w3.alloc (.cells #[.int .i64 v2, .slice A2 l2.length c2] 24) = wz := ⟨_, rfl⟩
  have XN := Aside0.mk (show wz.heap[w3.heap.size]? = some (.cells #[.int .i64 v2, .slice A2 l2.length c2] 24) by rw [← hwz]; exact blk_new _ _)
  have XM := Aside0.mk (show wz.heap[w.heap.size]? = some (.cells #[.int .i64 v, .slice A l.length c] 24) by rw [← hwz]; exact blk_alloc XM3.out _)
  have BZ := Aside0.mk (show Below w.heap.size w wz by rw [← hwz]; exact B3.out.alloc B3.out.size _)
  have C2 := Aside0.mk (show Kd.C k46 wz A2 l2.length l2 by rw [← hwz]; exact Kd.C_below C3.out ((Below.refl _ _).alloc (Nat.le_refl _) _))
  have CM := Aside0.mk (show Kd.C k46 wz A l.length l from Kd.C_below CM0.out BZ.out)
  rw [hwz]
  obtain ⟨g, hg⟩ : ∃ g, w3.heap.size = g := ⟨_, rfl⟩
  rw [hg] at XN ⊢
  clear hwz hg XM3 B3 C3
  obtain ⟨sm, hsm⟩ : ∃ s, decide (v = v2 ∧ l.map cR = l2.map cR) = s := ⟨_, rfl⟩
  have HSM := Aside0.mk hsm
  have HSE := Aside0.mk (show er = 0 → sm = true from fun h => by
    obtain ⟨_, h1, h2⟩ := HRD.out h
    rw [← hsm, h1, h2]
    exact decide_eq_true ⟨rfl, rfl⟩)
  clear hsm
  have HSM2 := HSM
  go_cut [10] from 36 to 41 (fun s10 wx => s10 = .bool sm ∧ Aside0 (Below wz.heap.size wz wx))
  case first =>
    refine region_draw (n := 6) (S := fun W => Below wz.heap.size wz W) (ds := []) #[false, false, false, false, false, false] (by kernel_rfl) rfl rfl (fun W => Below wz.heap.size wz W) (by exact below_drew1 (Below.refl _ _)) (fun W h => h) ?_
    rintro ws hws
    refine with_tabW back6tab back6bits (fun HT_ HW_ => ?_)
    have BS := Aside0.mk hws
    clear hws
    refine take_ (i := 0) (N := some 36) (v := ?_) (a' := ?_) #[true, false, false, false, false, false] rfl rfl (take_ofW HT_.out HW_.out (by kernel_rfl)) (fun _ _ _ h => h) (Or.inl ⟨by rfl, ?_⟩) BS.out ?_ ?_
    rotate_left
    · intro w' hW
      obtain ⟨m0, m1, mf⟩ := cells2m (blk_below XM.out hW)
      go_simp
      with_reducible rfl
    rotate_left
    · simp only [Act.put, List.setIfInBounds_toArray, List.set_cons_zero, List.set_cons_succ, i64_w, i32_w]
      rfl
    refine take_ (i := 2) (N := some 38) (v := ?_) (a' := ?_) #[true, false, true, false, false, false] rfl rfl (take_ofW HT_.out HW_.out (by kernel_rfl)) (fun _ _ _ h => h) (Or.inl ⟨by rfl, ?_⟩) BS.out ?_ ?_
    rotate_left
    · intro w' hW
      obtain ⟨n0, n1, nf⟩ := cells2m (blk_below XN.out hW)
      go_simp
      with_reducible rfl
    rotate_left
    · simp only [Act.put, List.setIfInBounds_toArray, List.set_cons_zero, List.set_cons_succ, i64_w, i32_w]
      rfl
    refine one_ (i := 1) (N := some 37) #[true, true, true, false, false, false] rfl rfl (one_of HT_.out (by kernel_rfl)) (by decide) (fun K hK => ?_)
    refine goes_ Tryd.func10 (by kernel_rfl) rfl #[.agg #[.int .i64 v, .slice A l.length c]] (by rfl) rfl rfl (by (try simp only [List.map_toArray, List.map_cons, List.map_nil]); first | done | rfl) ?_
    refine (to_calls v l HLL.out A c ws (Kd.C_below CM.out BS.out) HLC.out).mono ?_
    rintro e wp ⟨AM, cM, rfl, hR, hb⟩
    refine ⟨_, rfl, ?_⟩
    have BP := Aside0.mk (BS.out.trans (hb.mono BS.out.size))
    have RM := Aside0.mk hR
    clear hR hb
    refine hK.out _ _ BP.out (fun _ => ?_)
    clear hK K
    refine norm_ (a' := ?_) ?_ ?_
    rotate_left
    · show Act.put _ (some 37) _ = _
      simp only [Act.put, List.setIfInBounds_toArray, List.set_cons_zero, List.set_cons_succ, i64_w, i32_w]
      rfl
    refine one_ (i := 3) (N := some 39) #[true, true, true, true, false, false] rfl rfl (one_of HT_.out (by kernel_rfl)) (by decide) (fun K hK => ?_)
    refine goes_ Tryd.func10 (by kernel_rfl) rfl #[.agg #[.int .i64 v2, .slice A2 l2.length c2]] (by rfl) rfl rfl (by (try simp only [List.map_toArray, List.map_cons, List.map_nil]); first | done | rfl) ?_
    refine (to_calls v2 l2 HL2.out A2 c2 wp (Kd.C_below C2.out BP.out) HC2.out).mono ?_
    rintro e wq ⟨AN, cN, rfl, hR, hb⟩
    refine ⟨_, rfl, ?_⟩
    have BQ := Aside0.mk (BP.out.trans (hb.mono BP.out.size))
    have RN := Aside0.mk hR
    replace RM := Aside0.mk (Kd.R_below RM.out hb)
    clear hR hb
    refine hK.out _ _ BQ.out (fun _ => ?_)
    clear hK K
    refine norm_ (a' := ?_) ?_ ?_
    rotate_left
    · show Act.put _ (some 39) _ = _
      simp only [Act.put, List.setIfInBounds_toArray, List.set_cons_zero, List.set_cons_succ, i64_w, i32_w]
      rfl
    refine one_ (i := 4) (N := some 40) #[true, true, true, true, true, false] rfl rfl (one_of HT_.out (by kernel_rfl)) (by decide) (fun K hK => ?_)
    refine goes_ Tryd.func13 (by kernel_rfl) rfl #[.agg #[.int .i64 v, .slice AM l.length cM], .agg #[.int .i64 v2, .slice AN l2.length cN]] (by rfl) rfl rfl (by (try simp only [List.map_toArray, List.map_cons, List.map_nil]); first | done | rfl) ?_
    refine (same_calls v v2 (l.map cR) (l2.map cR) (by rw [List.length_map]; exact HLL.out) (by rw [List.length_map]; exact HL2.out) AM AN l.length l2.length cM cN wq _ _ _ _ RM.out RN.out).mono ?_
    rintro e wr ⟨rfl, hb⟩
    refine ⟨_, rfl, ?_⟩
    rw [HSM.out]
    have BR := Aside0.mk (BQ.out.trans (hb.mono BQ.out.size))
    clear hb
    refine hK.out _ _ BR.out (fun _ => ?_)
    clear hK K
    refine norm_ (a' := ?_) ?_ ?_
    rotate_left
    · show Act.put _ (some 40) _ = _
      simp only [Act.put, List.setIfInBounds_toArray, List.set_cons_zero, List.set_cons_succ, i64_w, i32_w]
      rfl
    refine pure_ (i := 5) (N := some 10) (v := ?_) (a' := ?_) #[true, true, true, true, true, true] rfl rfl (any_of HT_.out (by kernel_rfl)) (fun _ _ _ h => h) (Or.inl ⟨by rfl, ?_⟩) ?_ ?_
    rotate_left
    · intro w'
      go_simp
      with_reducible rfl
    rotate_left
    · simp only [Act.put, List.setIfInBounds_toArray, List.set_cons_zero, List.set_cons_succ, i64_w, i32_w]
      rfl
    refine done_ (done_of HT_.out (by kernel_rfl)) ?_
    go_wp2_with fail
    go_meet
    case rel => exact ⟨rfl, BR⟩
  case rest =>
    obtain ⟨rfl, BC⟩ := hcut
    have B9 := Aside0.mk (BZ.out.trans (BC.out.mono BZ.out.size))
    clear BC
    by_cases h0 : er = 0
    · obtain ⟨g0, _, _⟩ := HRD.out h0
      have g1 := HSE.out h0
      subst h0 g0 g1
      go_wp2_with fail
      refine (man_Read.calls b HBS.out wc).mono ?_
      rintro e w5 hpost
      have B5 := Aside0.mk (B9.out.trans (hpost.1.mono B9.out.size))
      obtain ⟨v3, l3, A3, c3, er3, rfl, hC3, hl3, hlc3, hu3, hRD3⟩ := back_two hpost
      have C3 := Aside0.mk hC3
      have HL3 := Aside0.mk hl3
      have HC3 := Aside0.mk hlc3
      have HRD3 := Aside0.mk hRD3
      obtain ⟨q3, hq3⟩ := Ev.rounds (ev_Bytes v3 l3 hl3 hu3)
      have HQ3 := Aside0.mk hq3
      clear hpost hC3 hl3 hlc3 hRD3 hu3 hq3
      obtain ⟨y, hy⟩ : ∃ y, (bytesR v3 l3).1 = y := ⟨_, rfl⟩
      obtain ⟨gg, hgg⟩ : ∃ y, (bytesR v3 l3).2 = y := ⟨_, rfl⟩
      rw [hy, hgg] at HRD3
      rw [show bytesR v3 l3 = (y, gg) by rw [← hy, ← hgg]] at HQ3
      clear hy hgg
      go_wp2_with fail
      refine (manifest_Bytes.calls q3 v3 A3 c3 l3 _ _ _ (Kd.C_below C3.out ((Below.refl _ _).alloc (Nat.le_refl _) _)) HC3.out HQ3.out).mono ?_
      rintro e w6 ⟨rfl, b6⟩
      have B6 := Aside0.mk ((B5.out.alloc B5.out.size _).trans (b6.mono (by have := B5.out.size; simp; omega)))
      clear b6
      by_cases k0 : er3 = 0
      · obtain ⟨k1, k2⟩ := HRD3.out k0
        subst k0 k1 k2
        go_wp2_with fail
        go_ret
        refine ⟨?_, B6.out⟩
        simp
      · have e0 : (er3 != 0) = true := by rw [bne_iff_ne]; exact k0
        go_wp2_with fail
        go_ret
        refine ⟨?_, B6.out⟩
        simp
    · have d0 : (er == 0) = false := by rw [beq_eq_false_iff_ne]; exact h0
      go_wp2_with fail
      refine (man_Read.calls b HBS.out wc).mono ?_
      rintro e w5 hpost
      have B5 := Aside0.mk (B9.out.trans (hpost.1.mono B9.out.size))
      obtain ⟨v3, l3, A3, c3, er3, rfl, hC3, hl3, hlc3, hu3, hRD3⟩ := back_two hpost
      have C3 := Aside0.mk hC3
      have HL3 := Aside0.mk hl3
      have HC3 := Aside0.mk hlc3
      have HRD3 := Aside0.mk hRD3
      obtain ⟨q3, hq3⟩ := Ev.rounds (ev_Bytes v3 l3 hl3 hu3)
      have HQ3 := Aside0.mk hq3
      clear hpost hC3 hl3 hlc3 hRD3 hu3 hq3
      obtain ⟨y, hy⟩ : ∃ y, (bytesR v3 l3).1 = y := ⟨_, rfl⟩
      obtain ⟨gg, hgg⟩ : ∃ y, (bytesR v3 l3).2 = y := ⟨_, rfl⟩
      rw [hy, hgg] at HRD3
      rw [show bytesR v3 l3 = (y, gg) by rw [← hy, ← hgg]] at HQ3
      clear hy hgg
      go_wp2_with fail
      refine (manifest_Bytes.calls q3 v3 A3 c3 l3 _ _ _ (Kd.C_below C3.out ((Below.refl _ _).alloc (Nat.le_refl _) _)) HC3.out HQ3.out).mono ?_
      rintro e w6 ⟨rfl, b6⟩
      have B6 := Aside0.mk ((B5.out.alloc B5.out.size _).trans (b6.mono (by have := B5.out.size; simp; omega)))
      clear b6
      by_cases k0 : er3 = 0
      · obtain ⟨k1, k2⟩ := HRD3.out k0
        subst k0 k1 k2
        go_wp2_with fail
        go_ret
        refine ⟨?_, B6.out⟩
        simp
      · have e0 : (er3 != 0) = true := by rw [bne_iff_ne]; exact k0
        go_wp2_with fail
        go_ret
        refine ⟨?_, B6.out⟩
        simp
structure S24 where
  f0 : Int
  f1 : (List S46)
def z24 : S24 := ⟨(0 : Int), ([] : List S46)⟩
def k24 : Kd S24 := Kd.iso (Kd.pair (Kd.int .i64) (Kd.slice 46 k46)) (fun x : S24 => (x.f0, x.f1))
theorem k24_open {w : World} {x : S24} {cs : List Value} (h : k24.K w x cs) : ∃ A1 c1, cs = [.int .i64 x.f0, .slice A1 x.f1.length c1] ∧ x.f1.length ≤ c1 ∧ k46.C w A1 x.f1.length x.f1 := by
  obtain ⟨_, _, rfl, rfl, ⟨A1, c1, rfl, l1, g1⟩⟩ := h
  exact ⟨A1, c1, rfl, l1, g1⟩
theorem back_wide (a0 : S24) (cs0 : Array Value) (a1 : ByteArray) (w : World) (K0 : k24.K w a0 cs0.toList) (G0 : ((Lit.int .i64 a0.f0).wf = true ∧ (a0.f1.length ≤ 9223372036854775807 ∧ ∀ e101 ∈ a0.f1, ((Lit.int .i64 e101.f0).wf = true ∧ (Lit.int .i64 e101.f1).wf = true ∧ (Lit.int .u32 e101.f2).wf = true)))) (hL : LaidW w) :
    Calls Tryd.prog 5 #[.agg cs0, .string a1] w fun e w' => e = .returned (.bool true) ∧ Below w.heap.size w w' := by
  obtain ⟨A, c, e0, hc, hC⟩ := k24_open K0
  replace e0 := congrArg List.toArray e0
  rw [Array.toArray_toList] at e0
  subst e0
  refine back_walk a0.f0 a0.f1 A c a1 w hL hC hc fun x hx => ?_
  have h := (G0.2.2 x hx).2.2
  simp [Lit.wf, IntKind.min, IntKind.max, IntKind.bits, IntKind.signed] at h
  unfold U32
  omega
end Go.Proofs.YtgampcbjmdgciaaDoor.Thw
