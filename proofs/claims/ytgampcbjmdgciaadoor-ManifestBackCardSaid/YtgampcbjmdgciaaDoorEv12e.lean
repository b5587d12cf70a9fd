/- Layer 12: awake. -/
import Derived.Test.YtgampcbjmdgciaaDoorEv12a
import Derived.Test.YtgampcbjmdgciaaDoorEv12d
import Derived.BigQuiet
import Derived.Test.YtgampcbjmdgciaaDoorPrint4
namespace Go.Proofs.YtgampcbjmdgciaaDoor.Thw
open Go Go.RowKit Go.Proofs.YtgampcbjmdgciaaDoor.Print Go.Proofs.YtgampcbjmdgciaaDoorW.PrintWords Go.Proofs.YtgampcbjmdgciaaDoorW.PrintLast Go.Proofs.YtgampcbjmdgciaaDoorW.PrintMore
set_option linter.unusedVariables false
set_option linter.unusedSimpArgs false
theorem manifest_Of_S (n : Int) (b : ByteArray) (hb : b.size ≤ 4611686018427387904) : manifest_Of.f n b = some (n, (b.size : Int), ((sumS2 (L b) : Nat) : Int)) := by
  unfold manifest_Of.f
  rw [crc_Sum_S b hb]
  rfl
theorem eqSeg (d : Nat) (w : World) (x0 y0 x1 y1 x2 y2 : Int) :
    (Op.equalIn (d + 2) 46 (.agg #[.int .i64 x0, .int .i64 x1, .int .u32 x2]) (.agg #[.int .i64 y0, .int .i64 y1, .int .u32 y2])).run Tryd.prog w = .ok (x0 == y0 && (x1 == y1 && (x2 == y2))) w := by
  refine eqA_of Tryd.underlying46 (by kernel_rfl) ?_
  refine eqf_cons (by rfl) (by go_simp; rfl) (by go_simp; rfl) (by go_simp) ?_
  refine eqf_cons (by rfl) (by go_simp; rfl) (by go_simp; rfl) (by go_simp) ?_
  exact eqf_last (by rfl) (by go_simp; rfl) (by go_simp; rfl) (by go_simp)
theorem cells3g {w : World} {s : Nat} {v0 v1 v2 : Value} {t : TypeId} (h : w.heap[s]? = some (.cells #[v0, v1, v2] t)) : w.cell? ⟨s, 0, none⟩ = some v0 ∧ w.cell? ⟨s, 1, none⟩ = some v1 ∧ w.cell? ⟨s, 2, none⟩ = some v2 := by
  refine ⟨?_, ?_, ?_⟩ <;> simp [World.cell?, h]
theorem seg_C {w : World} {g : Nat} {x : SgI} {t : TypeId} (h : w.heap[g]? = some (.cells #[.int .i64 x.f0, .int .i64 x.f1, .int .u32 x.f2] t)) : Kd.C k46 w (some ⟨g, 0, none⟩) 1 [x] := by
  obtain ⟨c0, c1, c2⟩ := cells3g h
  refine ⟨rfl, by decide, fun _ => ⟨⟨g, 0, none⟩, rfl, fun j p hj => ?_⟩⟩
  match j, hj with
  | 0, hj =>
    have : x = p := by simpa using hj
    subst this
    refine ⟨_, rfl, k46_mk w x, fun i u hi => ?_⟩
    have e : ((⟨g, 0, none⟩ : Addr).add (0 * 3 + i)) = ⟨g, i, none⟩ := by
      unfold Addr.add
      simp
      intro h
      exact h.symm
    show w.cell? ((⟨g, 0, none⟩ : Addr).add (0 * 3 + i)) = some u
    rw [e]
    match i, hi with
    | 0, hi => injection hi with hi; rw [← hi]; exact c0
    | 1, hi => injection hi with hi; rw [← hi]; exact c1
    | 2, hi => injection hi with hi; rw [← hi]; exact c2
  | j + 1, hj => simp at hj
theorem name7 : IsV (L ⟨#[109, 48, 48, 48, 48, 48, 55]⟩) 7 := ⟨by decide, by decide, by decide⟩
theorem obj3 : nameB 111 3 0 = ⟨#[111, 48, 48, 48, 48, 48, 51]⟩ := by
  unfold nameB nameL
  rw [if_neg (by decide)]
  decide
set_option maxHeartbeats 6400000 in
theorem awake12.calls (w : World) (hL : LaidW w) : Calls Tryd.prog 7 #[] w fun e w' => e = .returned (.bool true) ∧ Below w.heap.size w w' := by
  have HL := Aside0.mk hL
  clear hL
  go_enter Tryd.func7, Tryd.ntmps7
  go_wp2_with fail
  have hz3 : (⟨#[97, 98, 99]⟩ : ByteArray).size = 3 := rfl
  refine (manifest_Of.calls 3 ⟨#[97, 98, 99]⟩ 3 3 _ _ (manifest_Of_S 3 ⟨#[97, 98, 99]⟩ (by decide))).mono ?_
  rintro e w1 ⟨rfl, b1⟩
  have HZ := Aside0.mk (sumS2_lt (L ⟨#[97, 98, 99]⟩))
  generalize sumS2 (L ⟨#[97, 98, 99]⟩) = z at HZ ⊢
  have B1 := Aside0.mk b1
  clear b1 hz3
  go_upto_region 2 with (fail)
  obtain ⟨w2, hw2⟩ : ∃ w2, (w1.alloc (.cells #[.int .i64 3, .int .i64 3, .int .u32 (z : Nat)] 46)).alloc (.cells #[.int .i64 7, .slice (some ⟨w1.heap.size, 0, none⟩) 1 1] 24) = w2 := ⟨_, rfl⟩
  have XS := Aside0.mk (show w2.heap[w1.heap.size]? = some (.cells #[.int .i64 3, .int .i64 3, .int .u32 (z : Nat)] 46) by rw [← hw2]; exact blk_alloc (blk_new _ _) _)
  have XM := Aside0.mk (show w2.heap[w1.heap.size + 1]? = some (.cells #[.int .i64 7, .slice (some ⟨w1.heap.size, 0, none⟩) 1 1] 24) by
    rw [← hw2]
    have := blk_new (w1.alloc (.cells #[.int .i64 3, .int .i64 3, .int .u32 (z : Nat)] 46)) (.cells #[.int .i64 7, .slice (some ⟨w1.heap.size, 0, none⟩) 1 1] 24)
    simpa using this)
  have B2 := Aside0.mk (show Below w.heap.size w w2 by rw [← hw2]; exact (B1.out.alloc B1.out.size _).alloc (by have := B1.out.size; simp; omega) _)
  rw [hw2]
  obtain ⟨g, hg⟩ : ∃ g, w1.heap.size = g := ⟨_, rfl⟩
  rw [hg] at XS XM ⊢
  clear hw2 hg B1
  obtain ⟨c0, c1, fm⟩ := cells2m XM.out
  have hright : rightB 7 [(⟨3, 3, (z : Nat)⟩ : SgI)] = true := by
    unfold rightB rightS rightS
    simp
  obtain ⟨q, hq⟩ := Ev.rounds (ev_Bytes 7 [(⟨3, 3, (z : Nat)⟩ : SgI)] (by simp) (fun x hx => by rw [List.mem_singleton.1 hx]; have := HZ.out; exact ⟨by show (0 : Int) ≤ (z : Nat); omega, by show ((z : Nat) : Int) ≤ 4294967295; omega⟩))
  have hbr : bytesR 7 [(⟨3, 3, (z : Nat)⟩ : SgI)] = (B (sealS (bodyS 7 [(3, 3, z)])), 0) := by
    unfold bytesR
    rw [if_pos hright]
    rfl
  rw [hbr] at hq
  have HQ := Aside0.mk hq
  have HRD := Aside0.mk (readR_put (v := 7) (l := [(3, 3, z)]) hright (fun p hp => by rw [List.mem_singleton.1 hp]; have := HZ.out; show z ≤ 4294967295; omega))
  have HSZ := Aside0.mk (show (B (sealS (bodyS 7 [(3, 3, z)]))).size ≤ 1000000 by
    rw [B_size, sealS_length]
    have h1 := putS_len 7
    have h2 := putS_len 1
    have h3 := segsB_len [((3, 3, z) : Sn)]
    unfold bodyS
    rw [List.length_append, List.length_append]
    simp at h2 h3 ⊢
    omega)
  clear hq hbr hright
  generalize bodyS 7 [(3, 3, z)] = bd at HQ HRD HSZ
  go_wp2_with fail
  refine (manifest_Bytes.calls q 7 (some ⟨g, 0, none⟩) 1 [(⟨3, 3, (z : Nat)⟩ : SgI)] _ _ w2 (seg_C XS.out) (Nat.le_refl _) HQ.out).mono ?_
  rintro e w3 ⟨rfl, b3⟩
  have XS3 := Aside0.mk (blk_below XS.out b3)
  have XM3 := Aside0.mk (blk_below XM.out b3)
  have B3 := Aside0.mk (B2.out.trans (b3.mono B2.out.size))
  clear b3 HQ c0 c1 fm XS XM B2
  go_wp2_with fail
  refine (man_Read.calls (B (sealS bd)) HSZ.out w3).mono ?_
  rintro e w4 ⟨b4, hpost⟩
  rw [L_B, HRD.out] at hpost
  have XS4 := Aside0.mk (blk_below XS3.out b4)
  have XM4 := Aside0.mk (blk_below XM3.out b4)
  have B4 := Aside0.mk (B3.out.trans (b4.mono B3.out.size))
  clear b4 XS3 XM3 B3
  rcases hpost with ⟨v, l, A, c, h1, rfl, hR⟩ | ⟨er, h1, _⟩
  · simp only [Prod.mk.injEq, Option.some.injEq, and_true] at h1
    obtain ⟨rfl, rfl⟩ := h1
    have HR := Aside0.mk hR
    clear hR
    go_wp2_with fail
    have XN4 := Aside0.mk (blk_new w4 (.cells #[.int .i64 7, .slice A 1 c] 24))
    refine (man_Version.calls ⟨#[109, 48, 48, 48, 48, 48, 55]⟩ (by decide) _ (HL.out.below (B4.out.alloc B4.out.size _))).mono ?_
    rintro e w5 ⟨⟨r, hr, rfl⟩, b5⟩
    have hr7 : r = (7, true) := by
      rcases hr with ⟨n, hn, rfl⟩ | ⟨hn, _⟩
      · rw [hn.uniq name7]; rfl
      · exact absurd name7 (hn 7)
    subst hr7
    have XN5 := Aside0.mk (blk_below XN4.out b5)
    have XS5 := Aside0.mk (blk_below (blk_alloc XS4.out _) b5)
    have XM5 := Aside0.mk (blk_below (blk_alloc XM4.out _) b5)
    have B5 := Aside0.mk ((B4.out.alloc B4.out.size (.cells #[.int .i64 7, .slice A 1 c] 24)).trans (b5.mono (by have := B4.out.size; simp; omega)))
    have R5 := Aside0.mk (Kd.R_below (Kd.R_alloc HR.out (.cells #[.int .i64 7, .slice A 1 c] 24)) b5)
    obtain ⟨b4, hb4⟩ : ∃ b, w4.heap.size = b := ⟨_, rfl⟩
    rw [hb4] at XN5 ⊢
    clear b5 hr XN4 XS4 XM4 B4 HR hb4
    have heq : ∀ w, (binOp BinOp.eql 46 (.agg #[.int .i64 3, .int .i64 3, .int .u32 (z : Nat)]) (.agg #[.int .i64 3, .int .i64 3, .int .u32 (z : Nat)])).run Tryd.prog w = .ok (.bool true) w := fun w => by
      simp [binOp, Op.equal, Op.maxDepth, eqSeg 9998 w]
    go_upto_region 5 with (fail)
    refine region_tail 44 (by kernel_rfl) (by kernel_rfl) (fun W => Below w5.heap.size w5 W) ((Below.refl _ _).drew) ?_
    rintro w6 b6
    have B6 := Aside0.mk (B5.out.trans (b6.mono B5.out.size))
    obtain ⟨c0, c1, fm⟩ := cells2m (blk_below XM5.out b6)
    obtain ⟨s0, s1, s2⟩ := cells3g (blk_below XS5.out b6)
    obtain ⟨n0, n1, fn⟩ := cells2m (blk_below XN5.out b6)
    obtain ⟨ad, rfl, k0, k1, k2⟩ := at_T46 (Kd.R_reads' (Kd.R_below R5.out b6)).2.2 0 (by omega) (by simp)
    have hrd : rd_T46 (List.map mkSg [(3, 3, z)]) 0 = ⟨3, 3, (z : Nat)⟩ := rfl
    rw [hrd] at k0 k1 k2
    simp only [Int.toNat_zero, Nat.zero_mul] at k0 k1 k2
    have e0 : ad.add 0 = ad := by unfold Addr.add; split <;> simp_all
    rw [e0] at k0 k1 k2
    clear b6 R5 XN5 XS5 XM5 B5 hrd e0
    refine WS.out ?_
    repeat (first | refine ws_want (v := _) (a' := _) (by rfl) (by go_simp; rfl) (by simp only [Act.put, List.setIfInBounds_toArray, List.set_cons_zero, List.set_cons_succ]; rfl) ?_ | refine ws_skip (a' := _) (by rfl) (by simp only [Act.put, List.setIfInBounds_toArray, List.set_cons_zero, List.set_cons_succ]; rfl) ?_)
    refine ws_nil ?_
    go_wp2_with fail
    refine (man_Object.calls 3 (by decide) _ (HL.out.below B6.out)).mono ?_
    rintro e w7 ⟨rfl, b7⟩
    have B7 := Aside0.mk (B6.out.trans (b7.mono B6.out.size))
    rw [obj3]
    clear b7 c0 c1 fm s0 s1 s2 n0 n1 fn k0 k1 k2 heq
    go_wp2_with fail
    go_ret
    exact ⟨rfl, B7.out⟩
  · cases h1
end Go.Proofs.YtgampcbjmdgciaaDoor.Thw
