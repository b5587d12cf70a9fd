/- Several texts of mine in one (Ev12e, Ev12i, Ev12k, Ev12l, Ev12m). -/
import Derived.Test.YtgampcbjmdgciaaDoorEv12a
import Derived.Test.YtgampcbjmdgciaaDoorEv12d
import Derived.BigQuiet
import Derived.Test.YtgampcbjmdgciaaDoorPrint4
import Derived.Test.YtgampcbjmdgciaaDoorPrint10
import Derived.Test.YtgampcbjmdgciaaDoorPrint7
import Derived.Test.YtgampcbjmdgciaaDoorEv01rI
import Derived.Test.YtgampcbjmdgciaaDoorEv02r
import Derived.Test.YtgampcbjmdgciaaDoorPrint5
import Derived.Test.YtgampcbjmdgciaaDoorPrint6
import Derived.Test.YtgampcbjmdgciaaDoorPrint9
import Derived.Test.YtgampcbjmdgciaaDoorWTab
import Derived.Deep.CutRange
import Derived.Deep.CutBlock
/-! ## Layer 12: awake. -/
namespace Go.Proofs.YtgampcbjmdgciaaDoor.Thw
open Go Go.RowKit Go.Proofs.YtgampcbjmdgciaaDoor.Print Go.Proofs.YtgampcbjmdgciaaDoorW.PrintWords Go.Proofs.YtgampcbjmdgciaaDoorW.PrintLast Go.Proofs.YtgampcbjmdgciaaDoorW.PrintMore
set_option linter.unusedVariables false
set_option linter.unusedSimpArgs false
theorem manifest_Of_S (n : Int) (b : ByteArray) (hb : b.size ≤ 4611686018427387904) : manifest_Of.f n b = some (n, (b.size : Int), ((sumS2 (L b) : Nat) : Int)) := by
  unfold manifest_Of.f
  rw [crc_Sum_S b hb]
  rfl
theorem eqSeg (d : Nat) (w : World) (x0 y0 x1 y1 x2 y2 : Int) :
    (Op.equalIn (d + 2) 46 (.agg #[.int .i64 x0, .int .i64 x1, .int .u32 x2]) (.agg #[.int .i64 y0, .int .i64 y1, .int .u32 y2])).run Tryd.prog w = .ok (x0 == y0 && (x1 == y1 && (x2 == y2))) w := by
  refine eqA_of Tryd.underlying46 (by kernel_rfl) ?_
  refine eqf_cons (by rfl) (by go_simp; rfl) (by go_simp; rfl) (by go_simp) ?_
  refine eqf_cons (by rfl) (by go_simp; rfl) (by go_simp; rfl) (by go_simp) ?_
  exact eqf_last (by rfl) (by go_simp; rfl) (by go_simp; rfl) (by go_simp)
theorem cells3g {w : World} {s : Nat} {v0 v1 v2 : Value} {t : TypeId} (h : w.heap[s]? = some (.cells #[v0, v1, v2] t)) : w.cell? ⟨s, 0, none⟩ = some v0 ∧ w.cell? ⟨s, 1, none⟩ = some v1 ∧ w.cell? ⟨s, 2, none⟩ = some v2 := by
  refine ⟨?_, ?_, ?_⟩ <;> simp [World.cell?, h]
theorem seg_C {w : World} {g : Nat} {x : SgI} {t : TypeId} (h : w.heap[g]? = some (.cells #[.int .i64 x.f0, .int .i64 x.f1, .int .u32 x.f2] t)) : Kd.C k46 w (some ⟨g, 0, none⟩) 1 [x] := by
  obtain ⟨c0, c1, c2⟩ := cells3g h
  refine ⟨rfl, by decide, fun _ => ⟨⟨g, 0, none⟩, rfl, fun j p hj => ?_⟩⟩
  match j, hj with
  | 0, hj =>
    have : x = p := by simpa using hj
    subst this
    refine ⟨_, rfl, k46_mk w x, fun i u hi => ?_⟩
    have e : ((⟨g, 0, none⟩ : Addr).add (0 * 3 + i)) = ⟨g, i, none⟩ := by
      unfold Addr.add
      simp
      intro h
      exact h.symm
    show w.cell? ((⟨g, 0, none⟩ : Addr).add (0 * 3 + i)) = some u
    rw [e]
    match i, hi with
    | 0, hi => injection hi with hi; rw [← hi]; exact c0
    | 1, hi => injection hi with hi; rw [← hi]; exact c1
    | 2, hi => injection hi with hi; rw [← hi]; exact c2
  | j + 1, hj => simp at hj
theorem name7 : IsV (L ⟨#[109, 48, 48, 48, 48, 48, 55]⟩) 7 := ⟨by decide, by decide, by decide⟩
theorem obj3 : nameB 111 3 0 = ⟨#[111, 48, 48, 48, 48, 48, 51]⟩ := by
  unfold nameB nameL
  rw [if_neg (by decide)]
  decide
set_option maxHeartbeats 6400000 in
theorem awake12.calls (w : World) (hL : LaidW w) : Calls Tryd.prog 7 #[] w fun e w' => e = .returned (.bool true) ∧ Below w.heap.size w w' := by
  have HL := Aside0.mk hL
  clear hL
  go_enter Tryd.func7, Tryd.ntmps7
  go_wp2_with fail
  have hz3 : (⟨#[97, 98, 99]⟩ : ByteArray).size = 3 := rfl
  refine (manifest_Of.calls 3 ⟨#[97, 98, 99]⟩ 3 3 _ _ (manifest_Of_S 3 ⟨#[97, 98, 99]⟩ (by decide))).mono ?_
  rintro e w1 ⟨rfl, b1⟩
  have HZ := Aside0.mk (sumS2_lt (L ⟨#[97, 98, 99]⟩))
  generalize sumS2 (L ⟨#[97, 98, 99]⟩) = z at HZ ⊢
  have B1 := Aside0.mk b1
  clear b1 hz3
  go_upto_region 2 with (fail)
  obtain ⟨w2, hw2⟩ : ∃ w2, (w1.alloc (.cells #[.int .i64 3, .int .i64 3, .int .u32 (z : Nat)] 46)).alloc (.cells #[.int .i64 7, .slice (some ⟨w1.heap.size, 0, none⟩) 1 1] 24) = w2 := ⟨_, rfl⟩
  have XS := Aside0.mk (show w2.heap[w1.heap.size]? = some (.cells #[.int .i64 3, .int .i64 3, .int .u32 (z : Nat)] 46) by rw [← hw2]; exact blk_alloc (blk_new _ _) _)
  have XM := Aside0.mk (show w2.heap[w1.heap.size + 1]? = some (.cells #[.int .i64 7, .slice (some ⟨w1.heap.size, 0, none⟩) 1 1] 24) by
    rw [← hw2]
    have := blk_new (w1.alloc (.cells #[.int .i64 3, .int .i64 3, .int .u32 (z : Nat)] 46)) (.cells #[.int .i64 7, .slice (some ⟨w1.heap.size, 0, none⟩) 1 1] 24)
    simpa using this)
  have B2 := Aside0.mk (show Below w.heap.size w w2 by rw [← hw2]; exact (B1.out.alloc B1.out.size _).alloc (by have := B1.out.size; simp; omega) _)
  rw [hw2]
  obtain ⟨g, hg⟩ : ∃ g, w1.heap.size = g := ⟨_, rfl⟩
  rw [hg] at XS XM ⊢
  clear hw2 hg B1
  obtain ⟨c0, c1, fm⟩ := cells2m XM.out
  have hright : rightB 7 [(⟨3, 3, (z : Nat)⟩ : SgI)] = true := by
    unfold rightB rightS rightS
    simp
  obtain ⟨q, hq⟩ := Ev.rounds (ev_Bytes 7 [(⟨3, 3, (z : Nat)⟩ : SgI)] (by simp) (fun x hx => by rw [List.mem_singleton.1 hx]; have := HZ.out; exact ⟨by show (0 : Int) ≤ (z : Nat); omega, by show ((z : Nat) : Int) ≤ 4294967295; omega⟩))
  have hbr : bytesR 7 [(⟨3, 3, (z : Nat)⟩ : SgI)] = (B (sealS (bodyS 7 [(3, 3, z)])), 0) := by
    unfold bytesR
    rw [if_pos hright]
    rfl
  rw [hbr] at hq
  have HQ := Aside0.mk hq
  have HRD := Aside0.mk (readR_put (v := 7) (l := [(3, 3, z)]) hright (fun p hp => by rw [List.mem_singleton.1 hp]; have := HZ.out; show z ≤ 4294967295; omega))
  have HSZ := Aside0.mk (show (B (sealS (bodyS 7 [(3, 3, z)]))).size ≤ 1000000 by
    rw [B_size, sealS_length]
    have h1 := putS_len 7
    have h2 := putS_len 1
    have h3 := segsB_len [((3, 3, z) : Sn)]
    unfold bodyS
    rw [List.length_append, List.length_append]
    simp at h2 h3 ⊢
    omega)
  clear hq hbr hright
  generalize bodyS 7 [(3, 3, z)] = bd at HQ HRD HSZ
  go_wp2_with fail
  refine (manifest_Bytes.calls q 7 (some ⟨g, 0, none⟩) 1 [(⟨3, 3, (z : Nat)⟩ : SgI)] _ _ w2 (seg_C XS.out) (Nat.le_refl _) HQ.out).mono ?_
  rintro e w3 ⟨rfl, b3⟩
  have XS3 := Aside0.mk (blk_below XS.out b3)
  have XM3 := Aside0.mk (blk_below XM.out b3)
  have B3 := Aside0.mk (B2.out.trans (b3.mono B2.out.size))
  clear b3 HQ c0 c1 fm XS XM B2
  go_wp2_with fail
  refine (man_Read.calls (B (sealS bd)) HSZ.out w3).mono ?_
  rintro e w4 ⟨b4, hpost⟩
  rw [L_B, HRD.out] at hpost
  have XS4 := Aside0.mk (blk_below XS3.out b4)
  have XM4 := Aside0.mk (blk_below XM3.out b4)
  have B4 := Aside0.mk (B3.out.trans (b4.mono B3.out.size))
  clear b4 XS3 XM3 B3
  rcases hpost with ⟨v, l, A, c, h1, rfl, hR⟩ | ⟨er, h1, _⟩
  · simp only [Prod.mk.injEq, Option.some.injEq, and_true] at h1
    obtain ⟨rfl, rfl⟩ := h1
    have HR := Aside0.mk hR
    clear hR
    go_wp2_with fail
    have XN4 := Aside0.mk (blk_new w4 (.cells #[.int .i64 7, .slice A 1 c] 24))
    refine (man_Version.calls ⟨#[109, 48, 48, 48, 48, 48, 55]⟩ (by decide) _ (HL.out.below (B4.out.alloc B4.out.size _))).mono ?_
    rintro e w5 ⟨⟨r, hr, rfl⟩, b5⟩
    have hr7 : r = (7, true) := by
      rcases hr with ⟨n, hn, rfl⟩ | ⟨hn, _⟩
      · rw [hn.uniq name7]; rfl
      · exact absurd name7 (hn 7)
    subst hr7
    have XN5 := Aside0.mk (blk_below XN4.out b5)
    have XS5 := Aside0.mk (blk_below (blk_alloc XS4.out _) b5)
    have XM5 := Aside0.mk (blk_below (blk_alloc XM4.out _) b5)
    have B5 := Aside0.mk ((B4.out.alloc B4.out.size (.cells #[.int .i64 7, .slice A 1 c] 24)).trans (b5.mono (by have := B4.out.size; simp; omega)))
    have R5 := Aside0.mk (Kd.R_below (Kd.R_alloc HR.out (.cells #[.int .i64 7, .slice A 1 c] 24)) b5)
    obtain ⟨b4, hb4⟩ : ∃ b, w4.heap.size = b := ⟨_, rfl⟩
    rw [hb4] at XN5 ⊢
    clear b5 hr XN4 XS4 XM4 B4 HR hb4
    have heq : ∀ w, (binOp BinOp.eql 46 (.agg #[.int .i64 3, .int .i64 3, .int .u32 (z : Nat)]) (.agg #[.int .i64 3, .int .i64 3, .int .u32 (z : Nat)])).run Tryd.prog w = .ok (.bool true) w := fun w => by
      simp [binOp, Op.equal, Op.maxDepth, eqSeg 9998 w]
    go_upto_region 5 with (fail)
    refine region_tail 44 (by kernel_rfl) (by kernel_rfl) (fun W => Below w5.heap.size w5 W) ((Below.refl _ _).drew) ?_
    rintro w6 b6
    have B6 := Aside0.mk (B5.out.trans (b6.mono B5.out.size))
    obtain ⟨c0, c1, fm⟩ := cells2m (blk_below XM5.out b6)
    obtain ⟨s0, s1, s2⟩ := cells3g (blk_below XS5.out b6)
    obtain ⟨n0, n1, fn⟩ := cells2m (blk_below XN5.out b6)
    obtain ⟨ad, rfl, k0, k1, k2⟩ := at_T46 (Kd.R_reads' (Kd.R_below R5.out b6)).2.2 0 (by omega) (by simp)
    have hrd : rd_T46 (List.map mkSg [(3, 3, z)]) 0 = ⟨3, 3, (z : Nat)⟩ := rfl
    rw [hrd] at k0 k1 k2
    simp only [Int.toNat_zero, Nat.zero_mul] at k0 k1 k2
    have e0 : ad.add 0 = ad := by unfold Addr.add; split <;> simp_all
    rw [e0] at k0 k1 k2
    clear b6 R5 XN5 XS5 XM5 B5 hrd e0
    refine WS.out ?_
    repeat (first | refine ws_want (v := _) (a' := _) (by rfl) (by go_simp; rfl) (by simp only [Act.put, List.setIfInBounds_toArray, List.set_cons_zero, List.set_cons_succ]; rfl) ?_ | refine ws_skip (a' := _) (by rfl) (by simp only [Act.put, List.setIfInBounds_toArray, List.set_cons_zero, List.set_cons_succ]; rfl) ?_)
    refine ws_nil ?_
    go_wp2_with fail
    refine (man_Object.calls 3 (by decide) _ (HL.out.below B6.out)).mono ?_
    rintro e w7 ⟨rfl, b7⟩
    have B7 := Aside0.mk (B6.out.trans (b7.mono B6.out.size))
    rw [obj3]
    clear b7 c0 c1 fm s0 s1 s2 n0 n1 fn k0 k1 k2 heq
    go_wp2_with fail
    go_ret
    exact ⟨rfl, B7.out⟩
  · cases h1
end Go.Proofs.YtgampcbjmdgciaaDoor.Thw
/-! ## Layer 12: a manifest for the document; are two the same. -/
namespace Go.Proofs.YtgampcbjmdgciaaDoor.Thw
open Go Go.RowKit Go.Proofs.YtgampcbjmdgciaaDoor.Print Go.Proofs.YtgampcbjmdgciaaDoorW.PrintWords Go.Proofs.YtgampcbjmdgciaaDoorW.PrintLast Go.Proofs.YtgampcbjmdgciaaDoorW.PrintMore
set_option linter.unusedVariables false
set_option linter.unusedSimpArgs false
abbrev SgR := S48
instance : DecidableEq SgR := fun x y =>
  if h : x.f0 = y.f0 ∧ x.f1 = y.f1 ∧ x.f2 = y.f2 then isTrue (by obtain ⟨a, b, c⟩ := x; obtain ⟨d, e, f⟩ := y; obtain ⟨h1, h2, h3⟩ := h; simp only at h1 h2 h3; rw [h1, h2, h3]) else isFalse (fun e => h (by rw [e]; exact ⟨rfl, rfl, rfl⟩))
def cR (x : SgI) : SgR := ⟨x.f0, x.f1, x.f2⟩
theorem cR_inj {x y : SgI} (h : cR x = cR y) : x = y := by
  obtain ⟨a, b, c⟩ := x
  obtain ⟨d, e, f⟩ := y
  unfold cR at h
  injection h with h1 h2 h3
  subst h1 h2 h3
  rfl
theorem ev_to (v : Int) (l : List SgI) (hl : l.length ≤ 1000000) : Ev (fun k => thwartlaw12_to.f k v l) (v, l.map cR) := by
  have step : ∀ (d i : Nat), i + d = l.length → Ev (fun k => thwartlaw12_to.l0 k (i : Int) v l v ((l.take i).map cR)) (v, l.map cR) := by
    intro d
    induction d with
    | zero =>
      intro i hi
      have ht : l.take i = l := List.take_of_length_le (by omega)
      rw [ht]
      refine Ev.step (f := fun _ => some (v, l.map cR)) (fun k => ?_) (ev_some fun _ => rfl)
      rw [thwartlaw12_to.l0, if_neg (by omega)]
    | succ d ih =>
      intro i hi
      have hlt : i < l.length := by omega
      have hx : rd_T46 l (i : Int) = l[i] := by
        unfold rd_T46
        rw [Int.toNat_natCast, List.getD_eq_getElem?_getD, List.getElem?_eq_getElem hlt]
        rfl
      have hi1 : wrap64 ((i : Int) + 1) = ((i + 1 : Nat) : Int) := by rw [wrap64_in (by omega) (by omega)]; omega
      have ih' := ih (i + 1) (by omega)
      rw [List.take_succ_eq_append_getElem hlt, List.map_append, List.map_singleton] at ih'
      refine Ev.step (f := fun k => thwartlaw12_to.l0 k ((i + 1 : Nat) : Int) v l v ((l.take i).map cR ++ [cR l[i]])) (fun k => ?_) ih'
      rw [thwartlaw12_to.l0, if_pos (by omega), if_pos (by omega), if_pos (by rw [List.length_map, List.length_take]; omega), hx, hi1]
      rfl
  have h0 := step l.length 0 (by omega)
  unfold thwartlaw12_to.f
  exact h0
theorem ev_Same (v v' : Int) (l l' : List SgR) (hl : l.length ≤ 1000000) (hl' : l'.length ≤ 1000000) : Ev (fun k => thwartref12_Same.f k v l v' l') (decide (v = v' ∧ l = l')) := by
  unfold thwartref12_Same.f
  by_cases hv : v = v'
  · refine ev_if_pos hv ?_
    subst hv
    by_cases hn : l.length = l'.length
    · have e0 : ((l.length : Int) != (l'.length : Int)) = false := by rw [hn]; simp
      rw [e0]
      have step : ∀ (d i : Nat), i + d = l.length → l.take i = l'.take i → Ev (fun k => thwartref12_Same.l0 k (i : Int) v l v l') (decide (v = v ∧ l = l')) := by
        intro d
        induction d with
        | zero =>
          intro i hi ht
          rw [List.take_of_length_le (by omega), List.take_of_length_le (by omega)] at ht
          refine Ev.step (f := fun _ => some true) (fun k => ?_) (ev_some fun _ => ?_)
          · rw [thwartref12_Same.l0, if_neg (by omega)]
          · rw [decide_eq_true ⟨rfl, ht⟩]
        | succ d ih =>
          intro i hi ht
          have hlt : i < l.length := by omega
          have hlt' : i < l'.length := by omega
          have hx : rd_T48 l (i : Int) = l[i] := by
            unfold rd_T48
            rw [Int.toNat_natCast, List.getD_eq_getElem?_getD, List.getElem?_eq_getElem hlt]
            rfl
          have hx' : rd_T48 l' (i : Int) = l'[i] := by
            unfold rd_T48
            rw [Int.toNat_natCast, List.getD_eq_getElem?_getD, List.getElem?_eq_getElem hlt']
            rfl
          have hi1 : wrap64 ((i : Int) + 1) = ((i + 1 : Nat) : Int) := by rw [wrap64_in (by omega) (by omega)]; omega
          have hc1 : (i : Int) < (l.length : Int) := by omega
          have hc2 : (0 : Int) ≤ (i : Int) := by omega
          have hc3 : (i : Int) < (l'.length : Int) := by omega
          by_cases he : l[i] = l'[i]
          · have ih' := ih (i + 1) (by omega) (by rw [List.take_succ_eq_append_getElem hlt, List.take_succ_eq_append_getElem hlt', ht, he])
            refine Ev.step (f := fun k => thwartref12_Same.l0 k ((i + 1 : Nat) : Int) v l v l') (fun k => ?_) ih'
            rw [thwartref12_Same.l0, if_pos hc1, if_pos hc2, if_pos hc3, hx, hx', he, hi1]
            rw [if_neg (by simp)]
          · refine Ev.step (f := fun _ => some false) (fun k => ?_) (ev_some fun _ => ?_)
            · rw [thwartref12_Same.l0, if_pos hc1, if_pos hc2, if_pos hc3, hx, hx']
              rw [if_pos ?_]
              apply Classical.byContradiction
              intro hne
              apply he
              generalize l[i] = x at hne ⊢
              generalize l'[i] = y at hne ⊢
              obtain ⟨a, b, c⟩ := x
              obtain ⟨d', e, f⟩ := y
              simp at hne
              obtain ⟨h1, h2, h3⟩ := hne
              rw [h1, h2, h3]
            · rw [decide_eq_false]
              rintro ⟨_, h⟩
              apply he
              simp only [h]
      refine Ev.step (f := fun k => thwartref12_Same.l0 k 0 v l v l') (fun k => ?_) (step l.length 0 (by omega) rfl)
      rw [thwartref12_Same.j0, if_neg (by simp)]
    · have e0 : ((l.length : Int) != (l'.length : Int)) = true := by
        rw [bne_iff_ne]
        omega
      rw [e0]
      refine Ev.step (f := fun _ => some false) (fun k => ?_) (ev_some fun _ => ?_)
      · rw [thwartref12_Same.j0, if_pos rfl]
      · rw [decide_eq_false]
        rintro ⟨_, h⟩
        exact hn (by rw [h])
  · refine ev_if_neg hv ?_
    refine Ev.step (f := fun _ => some false) (fun k => ?_) (ev_some fun _ => ?_)
    · rw [thwartref12_Same.j0, if_pos rfl]
    · rw [decide_eq_false]
      rintro ⟨h, _⟩
      exact hv h
theorem to_calls (v : Int) (l : List SgI) (hl : l.length ≤ 1000000) (A : Option Addr) (c : Nat) (W : World) (hC : Kd.C k46 W A l.length l) (hc : l.length ≤ c) :
    Calls Tryd.prog 10 #[.agg #[.int .i64 v, .slice A l.length c]] W fun e w' => ∃ A' c', e = .returned (.agg #[.int .i64 v, .slice A' l.length c']) ∧ Kd.R k48 48 w' W.heap.size (fun _ => True) (.slice A' l.length c') (l.map cR) ∧ Below W.heap.size W w' := by
  obtain ⟨q, hq⟩ := Ev.rounds (ev_to v l hl)
  refine (thwartlaw12_to.calls q v A c l v (l.map cR) W hC hc hq).mono ?_
  rintro e w' ⟨v1, rfl, hR, hb⟩
  obtain ⟨A', c', rfl⟩ := Kd.R_slice hR
  rw [List.length_map] at hR ⊢
  exact ⟨A', c', rfl, hR, hb⟩
theorem same_calls (v v' : Int) (l l' : List SgR) (hl : l.length ≤ 1000000) (hl' : l'.length ≤ 1000000) (A A' : Option Addr) (n n' c c' : Nat) (W : World) (b b' : Nat) (ok ok' : Nat → Prop) (hR : Kd.R k48 48 W b ok (.slice A n c) l) (hR' : Kd.R k48 48 W b' ok' (.slice A' n' c') l') :
    Calls Tryd.prog 13 #[.agg #[.int .i64 v, .slice A n c], .agg #[.int .i64 v', .slice A' n' c']] W fun e w' => e = .returned (.bool (decide (v = v' ∧ l = l'))) ∧ Below W.heap.size W w' := by
  obtain ⟨q, hq⟩ := Ev.rounds (ev_Same v v' l l' hl hl')
  obtain ⟨rfl, hc, hC⟩ := Kd.R_reads' hR
  obtain ⟨rfl, hc', hC'⟩ := Kd.R_reads' hR'
  exact thwartref12_Same.calls q v A c l v' A' c' l' _ W hC hc hC' hc' hq
end Go.Proofs.YtgampcbjmdgciaaDoor.Thw
/-! ## Layer 12: the document's Right, Bytes, Read. -/
namespace Go.Proofs.YtgampcbjmdgciaaDoor.Thw
open Go Go.RowKit Go.Proofs.YtgampcbjmdgciaaDoor.Print Go.Proofs.YtgampcbjmdgciaaDoorW.PrintWords Go.Proofs.YtgampcbjmdgciaaDoorW.PrintLast Go.Proofs.YtgampcbjmdgciaaDoorW.PrintMore
set_option linter.unusedVariables false
set_option linter.unusedSimpArgs false
theorem rdR {l : List SgI} {i : Nat} (h : i < l.length) : rd_T48 (l.map cR) (i : Int) = cR l[i] := by
  unfold rd_T48
  rw [Int.toNat_natCast, List.getD_eq_getElem?_getD, List.getElem?_map, List.getElem?_eq_getElem h]
  rfl
theorem ev_rRight (v : Int) (l : List SgI) (hl : l.length ≤ 1000000) : Ev (fun k => thwartref12_Right.f k v (l.map cR)) (rightB v l) := by
  have step : ∀ (d i : Nat) (last : Int), i + d = l.length → -1 ≤ last → (i = 0 → last = -1) → (0 < i → (rd_T48 (l.map cR) ((i - 1 : Nat) : Int)).f0 = last) →
      Ev (fun k => thwartref12_Right.l0 k (i : Int) v (l.map cR)) (rightS last (l.drop i) && decide (1 ≤ v) && decide (v ≤ 999999) && decide (l.length ≤ 200)) := by
    intro d
    induction d with
    | zero =>
      intro i last hi _ _ _
      have hd : l.drop i = [] := List.drop_eq_nil_of_le (by omega)
      refine Ev.step (f := fun _ => if v ≥ 1 then (if v ≤ 999999 then some (decide ((l.length : Int) ≤ 200)) else some false) else some false) (fun k => ?_) ?_
      · rw [thwartref12_Right.l0, List.length_map, if_neg (by omega)]
      · rw [hd]
        unfold rightS
        refine ev_some fun k => ?_
        by_cases h1 : 1 ≤ v
        · rw [if_pos h1]
          by_cases h2 : v ≤ 999999
          · rw [if_pos h2, decide_eq_true h1, decide_eq_true h2]
            congr 1
            rw [Bool.true_and, Bool.true_and, Bool.true_and]
            exact decide_eq_decide.2 (by omega)
          · rw [if_neg h2, decide_eq_false h2]
            simp
        · rw [if_neg h1, decide_eq_false h1]
          simp
    | succ d ih =>
      intro i last hi hm1 hz hp
      have hlt : i < l.length := by omega
      have hx := rdR hlt
      have hi1 : wrap64 ((i : Int) + 1) = ((i + 1 : Nat) : Int) := by rw [wrap64_in (by omega) (by omega)]; omega
      have hc1 : (i : Int) < (l.length : Int) := by omega
      have hc2 : (0 : Int) ≤ (i : Int) := by omega
      have ih' := fun (h : -1 ≤ (l[i]'hlt).f0) => ih (i + 1) (l[i]'hlt).f0 (by omega) h (fun h => by omega) (fun _ => by rw [Nat.add_sub_cancel, hx]; rfl)
      rw [List.drop_eq_getElem_cons hlt]
      generalize l.drop (i + 1) = dr at ih' ⊢
      generalize l[i] = x at hx ih' ⊢
      refine Ev.step (f := fun k => if x.f0 < 0 then some false else if x.f0 > 999999 then some false else if x.f1 < 0 then some false else if x.f1 > 1048576 then some false else if x.f0 ≤ last then some false else thwartref12_Right.l0 k ((i + 1 : Nat) : Int) v (l.map cR)) (fun k => ?_) ?_
      · rw [thwartref12_Right.l0, List.length_map, if_pos hc1, if_pos hc2, hx, hi1]
        show (if x.f0 < 0 then some false else if x.f0 > 999999 then some false else if x.f1 < 0 then some false else if x.f1 > 1048576 then some false else _) = _
        by_cases c1 : x.f0 < 0
        · rw [if_pos c1, if_pos c1]
        rw [if_neg c1, if_neg c1]
        by_cases h0 : i = 0
        · have hl1 := hz h0
          rw [if_neg (show ¬ ((i : Int) > 0) by omega), if_neg (show ¬ x.f0 ≤ last by omega)]
        · have hi2 : wrap64 ((i : Int) - 1) = ((i - 1 : Nat) : Int) := by rw [wrap64_in (by omega) (by omega)]; omega
          have hc3 : ((i : Int) > 0) := by omega
          have hc4 : (0 : Int) ≤ ((i - 1 : Nat) : Int) := by omega
          have hc5 : ((i - 1 : Nat) : Int) < (l.length : Int) := by omega
          rw [if_pos hc3, hi2, if_pos hc4, if_pos hc5, hp (by omega)]
          rfl
      · rw [rightS]
        by_cases c0 : x.f0 < 0
        · refine ev_if_pos c0 (ev_some fun _ => ?_)
          rw [decide_eq_true (show x.f0 ≤ last by omega)]; simp
        refine ev_if_neg c0 ?_
        by_cases c2 : x.f0 > 999999
        · refine ev_if_pos c2 (ev_some fun _ => ?_)
          rw [decide_eq_true (show 999999 < x.f0 from c2)]; simp
        refine ev_if_neg c2 ?_
        by_cases c3 : x.f1 < 0
        · refine ev_if_pos c3 (ev_some fun _ => ?_)
          rw [decide_eq_true c3]; simp
        refine ev_if_neg c3 ?_
        by_cases c4 : x.f1 > 1048576
        · refine ev_if_pos c4 (ev_some fun _ => ?_)
          rw [decide_eq_true (show 1048576 < x.f1 from c4)]; simp
        refine ev_if_neg c4 ?_
        by_cases c1 : x.f0 ≤ last
        · refine ev_if_pos c1 (ev_some fun _ => ?_)
          rw [decide_eq_true c1]; simp
        refine ev_if_neg c1 ?_
        rw [decide_eq_false c1, decide_eq_false (show ¬ 999999 < x.f0 from c2), decide_eq_false c3, decide_eq_false (show ¬ 1048576 < x.f1 from c4)]
        exact ih' (by omega)
  exact step l.length 0 (-1) (by omega) (by omega) (fun _ => rfl) (fun h => by omega)
set_option maxHeartbeats 1600000 in
theorem ev_rBytes (v : Int) (l : List SgI) (hl : l.length ≤ 1000) (hu : ∀ x ∈ l, U32 x) : Ev (fun k => thwartref12_Bytes.f k v (l.map cR)) (bytesR v l) := by
  unfold thwartref12_Bytes.f bytesR
  refine Ev.bind (ev_rRight v l (by omega)) ?_
  rw [List.length_map]
  cases hr : rightB v l with
  | false =>
    rw [if_neg (by simp)]
    exact ev_some fun _ => if_neg (by simp)
  | true =>
    rw [if_pos rfl]
    obtain ⟨h1, h2, h3, h4⟩ := rightB_of hr
    obtain ⟨vn, rfl⟩ : ∃ n : Nat, v = (n : Int) := ⟨v.toNat, by omega⟩
    have ev : IntKind.u64.wrap (vn : Int) = (vn : Int) := u64_in (by omega) (by omega)
    have el : IntKind.u64.wrap (l.length : Int) = (l.length : Int) := u64_in (by omega) (by omega)
    refine ev_yes ?_
    rw [ev, el]
    refine Ev.bind (ev_rPutS vn (by omega)) ?_
    refine Ev.bind (ev_rPutS l.length (by omega)) ?_
    have z1 := putS_len vn
    have z2 := putS_len l.length
    refine ev_if_pos (by rw [B_size, B_size]; omega) ?_
    rw [Int.toNat_natCast]
    have hap : ∀ a b : Bs, B a ++ B b = B (a ++ b) := fun a b => L_inj (by simp [L, B])
    have step : ∀ (d i : Nat), i + d = l.length → Ev (fun k => thwartref12_Bytes.l0 k (B (putS vn ++ putS l.length ++ segsB ((l.take i).map unSg))) (i : Int) (vn : Int) (l.map cR)) (B (sealS (bodyS vn (l.map unSg))), 0) := by
      intro d
      induction d with
      | zero =>
        intro i hi
        have ht : l.take i = l := List.take_of_length_le (by omega)
        rw [ht]
        have hz := segsB_len (l.map unSg)
        rw [List.length_map] at hz
        refine Ev.step (f := fun k => (thwartref02_Seal.f k (B (putS vn ++ putS l.length ++ segsB (l.map unSg)))).bind fun t => some (t, 0)) (fun k => ?_) ?_
        · rw [thwartref12_Bytes.l0, List.length_map, if_neg (by omega)]
        · refine Ev.bind (ev_rSeal _ (by rw [B_size, List.length_append, List.length_append]; omega)) ?_
          rw [L_B]
          refine ev_some fun _ => ?_
          unfold bodyS
          rw [List.length_map]
      | succ d ih =>
        intro i hi
        have hlt : i < l.length := by omega
        have hx := rdR hlt
        have hi1 : wrap64 ((i : Int) + 1) = ((i + 1 : Nat) : Int) := by rw [wrap64_in (by omega) (by omega)]; omega
        have ih' := ih (i + 1) (by omega)
        have hsz := segsB_len ((l.take i).map unSg)
        rw [List.length_map, List.length_take] at hsz
        rw [List.take_succ_eq_append_getElem hlt, List.map_append, List.map_singleton, segsB_snoc] at ih'
        have hm := h4 _ (List.getElem_mem hlt)
        have hmu := hu _ (List.getElem_mem hlt)
        unfold U32 at hmu
        generalize segsB ((l.take i).map unSg) = acc at ih' hsz ⊢
        generalize l[i] = x at hx ih' hm hmu ⊢
        obtain ⟨x0, x1, x2⟩ := x
        simp only at hm hmu
        obtain ⟨n0, rfl⟩ : ∃ n : Nat, x0 = (n : Int) := ⟨x0.toNat, by omega⟩
        obtain ⟨n1, rfl⟩ : ∃ n : Nat, x1 = (n : Int) := ⟨x1.toNat, by omega⟩
        obtain ⟨n2, rfl⟩ : ∃ n : Nat, x2 = (n : Int) := ⟨x2.toNat, by omega⟩
        have y0 := putS_len n0
        have y1 := putS_len n1
        have y2 := putS_len n2
        have w0 : IntKind.u64.wrap (n0 : Int) = (n0 : Int) := u64_in (by omega) (by omega)
        have w1 : IntKind.u64.wrap (n1 : Int) = (n1 : Int) := u64_in (by omega) (by omega)
        have w2 : IntKind.u64.wrap (n2 : Int) = (n2 : Int) := u64_in (by omega) (by omega)
        have hb : segB (unSg ⟨(n0 : Int), (n1 : Int), (n2 : Int)⟩) = putS n0 ++ putS n1 ++ putS n2 := by
          unfold segB unSg
          simp
        rw [hb] at ih'
        have hc1 : (i : Int) < (l.length : Int) := by omega
        have hc2 : (0 : Int) ≤ (i : Int) := by omega
        have hs0 : (putS vn ++ putS l.length ++ acc).length ≤ 40000 := by rw [List.length_append, List.length_append]; omega
        have hs1 : (B (putS vn ++ putS l.length ++ acc)).size + (B (putS n0)).size ≤ 9223372036854775807 := by rw [B_size, B_size]; omega
        have hs2 : (B (putS vn ++ putS l.length ++ acc)).size + (B (putS n0)).size + (B (putS n1)).size ≤ 9223372036854775807 := by rw [B_size, B_size, B_size]; omega
        have hs3 : (B (putS vn ++ putS l.length ++ acc)).size + (B (putS n0)).size + (B (putS n1)).size + (B (putS n2)).size ≤ 9223372036854775807 := by rw [B_size, B_size, B_size, B_size]; omega
        refine Ev.step (fun k => by rw [thwartref12_Bytes.l0, List.length_map, if_pos hc1, if_pos hc2, hx, hi1]) ?_
        show Ev (fun k => (thwartref01_Put.f k (IntKind.u64.wrap (n0 : Int))).bind _) _
        rw [w0]
        refine Ev.bind (ev_rPutS n0 (by omega)) ?_
        refine ev_if_pos hs1 ?_
        show Ev (fun k => (thwartref01_Put.f k (IntKind.u64.wrap (n1 : Int))).bind _) _
        rw [w1]
        refine Ev.bind (ev_rPutS n1 (by omega)) ?_
        refine ev_if_pos hs2 ?_
        show Ev (fun k => (thwartref01_Put.f k (IntKind.u64.wrap (n2 : Int))).bind _) _
        rw [w2]
        refine Ev.bind (ev_rPutS n2 (by omega)) ?_
        refine ev_if_pos hs3 ?_
        rw [hap, hap, hap]
        have e1 : putS vn ++ putS l.length ++ acc ++ putS n0 ++ putS n1 ++ putS n2 = putS vn ++ putS l.length ++ (acc ++ (putS n0 ++ putS n1 ++ putS n2)) := by simp only [List.append_assoc]
        rw [e1]
        exact ih'
    have h0 := step l.length 0 (by omega)
    rw [hap]
    have e0 : segsB ((l.take 0).map unSg) = [] := rfl
    rw [e0, List.append_nil] at h0
    exact h0
end Go.Proofs.YtgampcbjmdgciaaDoor.Thw
/-! ## Layer 12: the document's Read comes to what manifest.Read comes to. -/
namespace Go.Proofs.YtgampcbjmdgciaaDoor.Thw
open Go Go.RowKit Go.Proofs.YtgampcbjmdgciaaDoor.Print Go.Proofs.YtgampcbjmdgciaaDoorW.PrintWords Go.Proofs.YtgampcbjmdgciaaDoorW.PrintLast Go.Proofs.YtgampcbjmdgciaaDoorW.PrintMore
set_option linter.unusedVariables false
set_option linter.unusedSimpArgs false
def putsL (l : List Nat) : Bs := (l.map putS).flatten
theorem putsL_cons (n : Nat) (l : List Nat) : putsL (n :: l) = putS n ++ putsL l := by simp [putsL]
theorem putsL_append (l r : List Nat) : putsL (l ++ r) = putsL l ++ putsL r := by simp [putsL]
theorem putsL_len (l : List Nat) : l.length ≤ (putsL l).length := by
  induction l with
  | nil => simp [putsL]
  | cons n l ih =>
    rw [putsL_cons, List.length_append, List.length_cons]
    have := putS_pos n
    omega
def flat3 : List Sn → List Nat
  | [] => []
  | p :: l => p.1 :: p.2.1 :: p.2.2 :: flat3 l
def trip : List Nat → List Sn
  | a :: b :: c :: r => (a, b, c) :: trip r
  | _ => []
theorem trip_flat : ∀ l : List Sn, trip (flat3 l) = l
  | [] => rfl
  | p :: l => by rw [flat3, trip, trip_flat l]
theorem segsB_puts : ∀ l : List Sn, segsB l = putsL (flat3 l)
  | [] => rfl
  | p :: l => by
    rw [flat3, putsL_cons, putsL_cons, putsL_cons, ← segsB_puts l]
    simp [segsB, segB]
theorem body_puts (v : Nat) (l : List Sn) : bodyS v l = putsL (v :: l.length :: flat3 l) := by
  unfold bodyS
  rw [putsL_cons, putsL_cons, segsB_puts, List.append_assoc]
theorem flat3_le : ∀ l : List Sn, (∀ p ∈ l, Fits p) → ∀ n ∈ flat3 l, n ≤ 4294967295
  | [], _, n, h => by cases h
  | p :: l, hf, n, h => by
    rw [flat3] at h
    obtain ⟨h1, h2, h3⟩ := hf p (List.mem_cons_self ..)
    rcases List.mem_cons.1 h with rfl | h
    · omega
    rcases List.mem_cons.1 h with rfl | h
    · omega
    rcases List.mem_cons.1 h with rfl | h
    · omega
    · exact flat3_le l (fun p hp => hf p (List.mem_cons_of_mem _ hp)) n h
theorem puts_prefix : ∀ (acc nums : List Nat) (rest : Bs), (∀ a ∈ acc, a ≤ 4294967295) → (∀ a ∈ nums, a ≤ 4294967295) → putsL acc ++ rest = putsL nums → ∃ n2, nums = acc ++ n2 ∧ rest = putsL n2
  | [], nums, rest, _, _, h => ⟨nums, rfl, by simpa [putsL] using h⟩
  | a :: acc, [], rest, _, _, h => by
    exfalso
    rw [putsL_cons] at h
    have h1 := congrArg List.length h
    have h2 := putS_pos a
    rw [List.length_append, List.length_append] at h1
    rw [show putsL [] = [] from rfl, List.length_nil] at h1
    omega
  | a :: acc, c :: nums, rest, ha, hc, h => by
    rw [putsL_cons, putsL_cons, List.append_assoc] at h
    have ha1 := ha a (List.mem_cons_self ..)
    have hc1 := hc c (List.mem_cons_self ..)
    have h1 := takeS_put a (by omega) (putsL acc ++ rest)
    rw [h, takeS_put c (by omega)] at h1
    simp only [Prod.mk.injEq, and_true] at h1
    obtain ⟨rfl, h2⟩ := h1
    obtain ⟨n2, e1, e2⟩ := puts_prefix acc nums rest (fun x hx => ha x (List.mem_cons_of_mem _ hx)) (fun x hx => hc x (List.mem_cons_of_mem _ hx)) h2.symm
    exact ⟨n2, by rw [e1]; rfl, e2⟩
/-- What both readings come to. -/
def rdT (b : Bs) : Int × List SgR × Int :=
  match readR b with
  | (some (v, l), _) => ((v : Int), (l.map mkSg).map cR, 0)
  | (none, e) => (0, [], e)
theorem rdT_some {b : Bs} {v : Nat} {l : List Sn} (h : readR b = (some (v, l), 0)) : rdT b = ((v : Int), (l.map mkSg).map cR, 0) := by unfold rdT; rw [h]
/-- b holds s, sealed; acc is read, rest is left. A manifest that reads is all of the numbers. -/
theorem read_nums {b s : Bs} {v : Nat} {l : List Sn} {e : Int} {acc : List Nat} {rest : Bs} (hs : openS b = (s, true)) (h : readR b = (some (v, l), e)) (hacc : ∀ a ∈ acc, a ≤ 4294967295) (he : s = putsL acc ++ rest) :
    ∃ n2, v :: l.length :: flat3 l = acc ++ n2 ∧ rest = putsL n2 ∧ (∀ a ∈ n2, a ≤ 4294967295) := by
  obtain ⟨h1, h2, h3, h4⟩ := readR_of h
  obtain ⟨r1, r2, r3, r4⟩ := rightB_of h2
  rw [List.length_map] at r3
  have ho : openS b = (bodyS v l, true) := by rw [h1, openS_seal]
  rw [hs] at ho
  simp only [Prod.mk.injEq, and_true] at ho
  have hall : ∀ a ∈ (v :: l.length :: flat3 l), a ≤ 4294967295 := by
    intro a ha
    rcases List.mem_cons.1 ha with rfl | ha
    · omega
    rcases List.mem_cons.1 ha with rfl | ha
    · omega
    · exact flat3_le l h3 a ha
  obtain ⟨n2, e1, e2⟩ := puts_prefix acc (v :: l.length :: flat3 l) rest hacc hall (by rw [← he, ho, body_puts])
  exact ⟨n2, e1, e2, fun a ha => hall a (by rw [e1]; exact List.mem_append_right _ ha)⟩
theorem rdT_bad {b s : Bs} (hs : openS b = (s, true)) (h : ∀ v l e, readR b ≠ (some (v, l), e)) : rdT b = (0, [], 2) := by
  rcases readR_err b with ⟨v, l, h1⟩ | ⟨h1, _⟩ | ⟨_, h1⟩
  · exact absurd h1 (h v l 0)
  · unfold rdT; rw [h1]
  · rw [hs] at h1; cases h1
theorem rd_nat {acc : List Nat} {i : Nat} (h : i < acc.length) : rd (acc.map Int.ofNat) (i : Int) = (acc[i] : Nat) := by
  unfold rd
  rw [Int.toNat_natCast, List.getD_eq_getElem?_getD, List.getElem?_map, List.getElem?_eq_getElem h]
  rfl
theorem trip_snoc {acc : List Nat} {i : Nat} (h : i + 2 < acc.length) : trip (acc.drop i) = (acc[i], acc[i + 1], acc[i + 2]) :: trip (acc.drop (i + 3)) := by
  rw [List.drop_eq_getElem_cons (by omega : i < acc.length), List.drop_eq_getElem_cons (by omega : i + 1 < acc.length), List.drop_eq_getElem_cons (by omega : i + 1 + 1 < acc.length), trip]
theorem trip_short : ∀ (l : List Nat), l.length ≤ 2 → trip l = []
  | [], _ => rfl
  | [_], _ => rfl
  | [_, _], _ => rfl
  | _ :: _ :: _ :: _, h => by simp at h
theorem trip_len : ∀ (l : List Nat), 3 * (trip l).length ≤ l.length
  | [] => by simp [trip]
  | [_] => by simp [trip]
  | [_, _] => by simp [trip]
  | _ :: _ :: _ :: r => by
    have := trip_len r
    rw [trip]
    simp only [List.length_cons]
    omega
theorem trip_le : ∀ (l : List Nat), (∀ a ∈ l, a ≤ 4294967295) → ∀ p ∈ trip l, p.2.2 ≤ 4294967295
  | [], _, p, h => by cases h
  | [_], _, p, h => by cases h
  | [_, _], _, p, h => by cases h
  | a :: b :: c :: r, hl, p, h => by
    rw [trip] at h
    rcases List.mem_cons.1 h with rfl | h
    · exact hl c (by simp)
    · exact trip_le r (fun x hx => hl x (by simp [hx])) p h
/-- The end: the numbers are all read. -/
theorem rdT_end {b s : Bs} {acc : List Nat} (hs : openS b = (s, true)) (hb : sealS s = b) (hacc : ∀ a ∈ acc, a ≤ 4294967295) (he : s = putsL acc) (h2 : 2 ≤ acc.length) :
    rdT b = (if bytesR ((acc[0]'(by omega) : Nat) : Int) ((trip (acc.drop 2)).map mkSg) = (B b, 0) then (((acc[0]'(by omega) : Nat) : Int), ((trip (acc.drop 2)).map mkSg).map cR, 0) else (0, [], 2)) := by
  have hno : ∀ v l e, readR b = (some (v, l), e) → v = acc[0]'(by omega) ∧ l = trip (acc.drop 2) ∧ e = 0 := by
    intro v l e h
    obtain ⟨n2, e1, e2, _⟩ := read_nums (acc := acc) (rest := []) hs h hacc (by rw [he, List.append_nil])
    have hn2 : n2 = [] := by
      have := putsL_len n2
      rw [← e2] at this
      exact List.eq_nil_of_length_eq_zero (by simpa using this)
    rw [hn2, List.append_nil] at e1
    subst e1
    exact ⟨rfl, by show l = trip (flat3 l); rw [trip_flat], (readR_of h).2.2.2⟩
  split
  · rename_i hbt
    unfold bytesR at hbt
    split at hbt
    · rename_i hr
      simp only [Prod.mk.injEq, and_true] at hbt
      rw [map_un_mk, Int.toNat_natCast] at hbt
      have hbb := congrArg L hbt
      rw [L_B, L_B] at hbb
      have h := readR_put hr (fun p hp => trip_le _ (fun a ha => hacc a (List.mem_of_mem_drop ha)) p hp)
      rw [hbb] at h
      rw [rdT_some h]
    · simp at hbt
  · rename_i hbt
    refine rdT_bad hs fun v l e h => hbt ?_
    obtain ⟨rfl, rfl, rfl⟩ := hno v l e h
    obtain ⟨h1, h3, h4, _⟩ := readR_of h
    unfold bytesR
    rw [if_pos h3, map_un_mk, Int.toNat_natCast, ← h1]
set_option maxHeartbeats 1600000 in
theorem ev_rRead (b : ByteArray) (hb : b.size ≤ 3000) : Ev (fun k => thwartref12_Read.f k b) (rdT (L b)) := by
  unfold thwartref12_Read.f
  refine Ev.bind (ev_rOpen b (by omega)) ?_
  rcases openS_told (L b) with ⟨s, ho, hse⟩ | ho
  · rw [ho]
    refine ev_if_pos rfl ?_
    show Ev (fun k => thwartref12_Read.l0 k b (B s) []) _
    have hsl : s.length ≤ 3000 := by
      have h1 := congrArg List.length hse
      rw [sealS_length] at h1
      have h2 : (L b).length = b.size := by simp [L]
      omega
    have hend : ∀ (acc : List Nat), (∀ a ∈ acc, a ≤ 4294967295) → s = putsL acc → (h2 : 2 ≤ acc.length) → ∀ (d i : Nat) (dn : List Sn), i + d = acc.length → dn ++ trip (acc.drop i) = trip (acc.drop 2) →
        Ev (fun k => thwartref12_Read.l1 k b (acc.map Int.ofNat) (i : Int) ((acc[0]'(by omega) : Nat) : Int) ((dn.map mkSg).map cR)) (rdT (L b)) := by
      intro acc hacc hs h2 d
      have hal : acc.length ≤ 3000 := by have := putsL_len acc; rw [← hs] at this; omega
      induction d using Nat.strongRecOn with
      | _ d ih =>
        intro i dn hi hdn
        have e2 : wrap64 ((i : Int) + 2) = ((i + 2 : Nat) : Int) := by rw [wrap64_in (by omega) (by omega)]; omega
        by_cases hc : i + 2 < acc.length
        · have e1 : wrap64 ((i : Int) + 1) = ((i + 1 : Nat) : Int) := by rw [wrap64_in (by omega) (by omega)]; omega
          have e3 : wrap64 ((i : Int) + 3) = ((i + 3 : Nat) : Int) := by rw [wrap64_in (by omega) (by omega)]; omega
          have q0 : ((i + 2 : Nat) : Int) < (acc.length : Int) := by omega
          have q1 : (0 : Int) ≤ (i : Int) := by omega
          have q2 : (i : Int) < (acc.length : Int) := by omega
          have q3 : (0 : Int) ≤ ((i + 1 : Nat) : Int) := by omega
          have q4 : ((i + 1 : Nat) : Int) < (acc.length : Int) := by omega
          have q5 : (0 : Int) ≤ ((i + 2 : Nat) : Int) := by omega
          have hb0 := hacc acc[i] (List.getElem_mem _)
          have hb1 := hacc acc[i + 1] (List.getElem_mem _)
          have hb2 := hacc acc[i + 2] (List.getElem_mem _)
          have w0 : wrap64 ((acc[i] : Nat) : Int) = (acc[i] : Nat) := wrap64_in (by omega) (by omega)
          have w1 : wrap64 ((acc[i + 1] : Nat) : Int) = (acc[i + 1] : Nat) := wrap64_in (by omega) (by omega)
          have w2 : ((acc[i + 2] : Nat) : Int) % 4294967296 = (acc[i + 2] : Nat) := by omega
          rw [trip_snoc hc] at hdn
          have hdl : dn.length ≤ 1000 := by
            have h3 := congrArg List.length hdn
            have h4 := trip_len (acc.drop 2)
            rw [List.length_append, List.length_cons] at h3
            rw [List.length_drop] at h4
            omega
          have q6 : ((dn.map mkSg).map cR).length < 5864062014805 := by rw [List.length_map, List.length_map]; omega
          have ih' := ih (d - 3) (by omega) (i + 3) (dn ++ [(acc[i], acc[i + 1], acc[i + 2])]) (by omega) (by rw [← hdn, List.append_assoc]; rfl)
          refine Ev.step (fun k => ?_) ih'
          rw [thwartref12_Read.l1, List.length_map, e2, e1, e3, if_pos q0, if_pos q1, if_pos q2, if_pos q3, if_pos q4, if_pos q5, if_pos q6, rd_nat (by omega), rd_nat (by omega), rd_nat (by omega), w0, w1, w2]
          rw [List.map_append, List.map_append]
          rfl
        · have q0 : ¬ ((i + 2 : Nat) : Int) < (acc.length : Int) := by omega
          have hdr : trip (acc.drop i) = [] := trip_short _ (by rw [List.length_drop]; omega)
          rw [hdr, List.append_nil] at hdn
          subst hdn
          have hdl : (trip (acc.drop 2)).length ≤ 1000 := by
            have h4 := trip_len (acc.drop 2)
            rw [List.length_drop] at h4
            omega
          have htl := trip_le (acc.drop 2) (fun a ha => hacc a (List.mem_of_mem_drop ha))
          rw [rdT_end ho hse hacc hs h2, B_L]
          generalize trip (acc.drop 2) = tr at hdl htl ⊢
          generalize hv : ((acc[0]'(by omega) : Nat) : Int) = v
          refine Ev.step (fun k => by rw [thwartref12_Read.l1, List.length_map, e2, if_neg q0]) ?_
          refine Ev.bind (ev_rBytes v (tr.map mkSg) (by rw [List.length_map]; exact hdl) (fun x hx => by
            obtain ⟨p, hp, rfl⟩ := List.mem_map.1 hx
            have := htl p hp
            unfold U32 mkSg
            simp only
            omega)) ?_
          obtain ⟨y, e, hye⟩ : ∃ y e, bytesR v (tr.map mkSg) = (y, e) := ⟨_, _, rfl⟩
          rw [hye]
          show Ev (fun k => if e = 0 then (if y.toList = b.toList then _ else _) else _) _
          by_cases h0 : e = 0
          · refine ev_if_pos h0 ?_
            by_cases hy : y.toList = b.toList
            · have hyb : y = b := L_inj (by rw [← toList_L, ← toList_L]; exact hy)
              refine ev_if_pos hy (ev_some fun _ => ?_)
              rw [if_pos (by rw [h0, hyb])]
            · refine ev_if_neg hy (ev_some fun _ => ?_)
              rw [if_neg]
              intro h
              simp only [Prod.mk.injEq] at h
              exact hy (by rw [h.1])
          · refine ev_if_neg h0 (ev_some fun _ => ?_)
            rw [if_neg]
            intro h
            simp only [Prod.mk.injEq] at h
            exact h0 h.2
    have stop : ∀ (acc : List Nat), (∀ a ∈ acc, a ≤ 4294967295) → s = putsL acc ++ [] → Ev (fun k => thwartref12_Read.l0 k b (B []) (acc.map Int.ofNat)) (rdT (L b)) := by
      intro acc hacc hs
      rw [List.append_nil] at hs
      have hz : ¬ (((B []).size : Nat) : Int) > 0 := by rw [B_size]; simp
      by_cases h2 : 2 ≤ acc.length
      · have c1 : ¬ ((acc.length : Nat) : Int) < 2 := by omega
        have c2 : (0 : Int) < ((acc.length : Nat) : Int) := by omega
        have hb0 := hacc (acc[0]'(by omega)) (List.getElem_mem _)
        have w0 : wrap64 ((acc[0]'(by omega) : Nat) : Int) = (acc[0]'(by omega) : Nat) := wrap64_in (by omega) (by omega)
        have hr0 : rd (acc.map Int.ofNat) 0 = (acc[0]'(by omega) : Nat) := rd_nat (i := 0) (by omega)
        refine Ev.step (fun k => ?_) (hend acc hacc hs h2 (acc.length - 2) 2 [] (by omega) rfl)
        rw [thwartref12_Read.l0, List.length_map, if_neg hz, if_neg c1, if_pos c2, hr0, w0]
        rfl
      · have c1 : ((acc.length : Nat) : Int) < 2 := by omega
        rw [rdT_bad ho (fun v l e h => by
          obtain ⟨n2, e1, e2, _⟩ := read_nums (acc := acc) (rest := []) ho h hacc (by rw [hs, List.append_nil])
          have hn2 : n2 = [] := by
            have := putsL_len n2
            rw [← e2] at this
            exact List.eq_nil_of_length_eq_zero (by simpa using this)
          rw [hn2, List.append_nil] at e1
          have := congrArg List.length e1
          simp at this
          omega)]
        refine Ev.step (f := fun _ => some _) (fun k => ?_) (ev_some fun _ => rfl)
        rw [thwartref12_Read.l0, List.length_map, if_neg hz, if_pos c1]
    have step : ∀ (d : Nat) (rest : Bs) (acc : List Nat), rest.length ≤ d → (∀ a ∈ acc, a ≤ 4294967295) → s = putsL acc ++ rest → Ev (fun k => thwartref12_Read.l0 k b (B rest) (acc.map Int.ofNat)) (rdT (L b)) := by
      intro d
      induction d with
      | zero =>
        intro rest acc hr hacc hs
        have hr0 : rest = [] := List.eq_nil_of_length_eq_zero (by omega)
        subst hr0
        exact stop acc hacc hs
      | succ d ih =>
        intro rest acc hr hacc hs
        by_cases hr0 : rest = []
        · subst hr0
          exact stop acc hacc hs
        · have hpos : 0 < rest.length := List.length_pos_iff.2 hr0
          have hz : (((B rest).size : Nat) : Int) > 0 := by rw [B_size]; omega
          have hrl : rest.length ≤ 3000 := by have := congrArg List.length hs; rw [List.length_append] at this; omega
          have hal : acc.length ≤ 3000 := by have := congrArg List.length hs; rw [List.length_append] at this; have := putsL_len acc; omega
          refine Ev.step (fun k => by rw [thwartref12_Read.l0, if_pos hz]) ?_
          refine Ev.bind (ev_rTake (B rest) (by rw [B_size]; omega)) ?_
          rw [L_B]
          have hbad : ∀ (P : ¬ ((takeS rest).2.2 = 0 ∧ (takeS rest).1 ≤ 4294967295)), rdT (L b) = (0, [], 2) := fun P => rdT_bad ho (fun v l e h => by
            obtain ⟨n2, e1, e2, e3⟩ := read_nums ho h hacc hs
            cases n2 with
            | nil => exact hr0 e2
            | cons n n2 =>
              have := e3 n (List.mem_cons_self ..)
              rw [putsL_cons] at e2
              rw [e2, takeS_put n (by omega)] at P
              exact P ⟨rfl, this⟩)
          have htold := takeS_told rest
          obtain ⟨n, r, e, hne⟩ : ∃ n r e, takeS rest = (n, r, e) := ⟨_, _, _, rfl⟩
          rw [hne] at hbad htold ⊢
          unfold TK
          show Ev (fun k => if e = 0 then (if (n : Int) > 4294967295 then _ else (if (acc.map Int.ofNat).length < 17592186044416 then thwartref12_Read.l0 k b (B r) (acc.map Int.ofNat ++ [(n : Int)]) else _)) else _) _
          by_cases h0 : e = 0
          · refine ev_if_pos h0 ?_
            by_cases hnn : n ≤ 4294967295
            · refine ev_if_neg (by omega) ?_
              refine ev_if_pos (by rw [List.length_map]; omega) ?_
              rcases htold with h1 | h1 | h1
              · obtain ⟨h1, h2, h3, h4, h5⟩ := h1
                simp only at h2 h5
                have ih' := ih r (acc ++ [n]) (by omega) (fun a ha => by
                  rcases List.mem_append.1 ha with ha | ha
                  · exact hacc a ha
                  · rw [List.mem_singleton.1 ha]; exact hnn) (by rw [hs, putsL_append, ← h2, List.append_assoc]; simp [putsL])
                rw [List.map_append] at ih'
                exact ih'
              · simp only [Prod.mk.injEq] at h1; omega
              · simp only [Prod.mk.injEq] at h1; omega
            · rw [hbad (fun h => hnn h.2)]
              exact ev_if_pos (by omega) (ev_some fun _ => rfl)
          · rw [hbad (fun h => h0 h.1)]
            exact ev_if_neg h0 (ev_some fun _ => rfl)
    exact step s.length s [] (Nat.le_refl _) (fun a ha => by cases ha) (by simp [putsL])
  · rw [ho]
    refine ev_if_neg (by simp) (ev_some fun _ => ?_)
    rcases readR_err (L b) with ⟨v, l, h1⟩ | ⟨_, h1⟩ | ⟨h1, _⟩
    · obtain ⟨h1, _⟩ := readR_of h1
      rw [h1, openS_seal] at ho
      exact absurd (congrArg Prod.snd ho) (by simp)
    · rw [ho] at h1; cases h1
    · unfold rdT; rw [h1]
end Go.Proofs.YtgampcbjmdgciaaDoor.Thw
/-! ## Layer 12: ManifestReads' walk (printed by gen12r.py). -/
namespace Go.Proofs.YtgampcbjmdgciaaDoor.Thw
open Go Go.RowKit Go.Proofs.YtgampcbjmdgciaaDoor.Print Go.Proofs.YtgampcbjmdgciaaDoorW.PrintWords Go.Proofs.YtgampcbjmdgciaaDoorW.PrintLast Go.Proofs.YtgampcbjmdgciaaDoorW.PrintMore
set_option linter.unusedVariables false
set_option linter.unusedSimpArgs false
theorem region_draw {P : Program} {ops : Array Oper} {Q : Exit → Act → World → Prop} {S : World → Prop} {ds : List Nat} {id n : Nat} {a : Act} {w : World} (l : Array Bool) (hm : P.follows .mixedOrders = true) (hn : ops.size = n) (hl : Array.replicate n false = l)
    (F : World → Prop) (hF : F w.drew) (hFS : ∀ W, F W → S W) (h : ∀ W, F W → wpAnyLast P .any ops Q S ds n l a W) : (Code.region id ops true).wp P Q a w := start_ l hm hn hl (hFS _ hF) (fun _ => h _ hF)
def reads8T : Bool × List (List Nat × List Nat) := (true, [([], []), ([0], [0]), ([], []), ([1, 2, 1], [1, 2]), ([3, 3, 0, 1, 2, 3], [3])])
def reads8B : List Nat := [0, 1, 0, 7, 15]
theorem reads8tab : rtab .any (opsOf Tryd.f3 8) = reads8T := by kernel_rfl
theorem reads8bits : waitsOk reads8T.2 reads8B = true := by kernel_rfl
def reads9T : Bool × List (List Nat × List Nat) := (true, [([], []), ([0], [0]), ([1], [1]), ([1], [1]), ([2, 3, 1], [1, 2, 3]), ([1, 4], [1, 4]), ([5, 1], [5]), ([6], [6]), ([6], [6]), ([7, 8, 6], [6, 7, 8]), ([6, 9], [6, 9]), ([10, 6], [10]), ([11], [11]), ([11, 12], [11, 12]), ([13, 11], [13]), ([14], [14]), ([14], [14]), ([15, 16, 14], [14, 15, 16]), ([14, 17], [14, 17]), ([18, 14], [18]), ([19], [19]), ([20, 19, 19], [19, 20]), ([19], [19]), ([22, 21, 19], [19, 22]), ([23, 23, 19], [19, 23]), ([21, 24, 19], [19, 21, 24]), ([19, 25], [19, 25]), ([26, 24, 0, 1, 2, 3, 4, 5, 6, 7, 8, 9, 10, 11, 12, 13, 14, 15, 16, 17, 18, 19, 20, 21, 22, 23, 24, 25, 26], [26])])
def reads9B : List Nat := [0, 1, 3, 3, 15, 31, 63, 127, 127, 511, 1023, 2047, 4095, 8191, 16383, 32767, 32767, 131071, 262143, 524287, 1048575, 2097151, 1048575, 8388607, 16777215, 33554431, 67108863, 134217727]
theorem reads9tab : rtab .any (opsOf Tryd.f3 9) = reads9T := by kernel_rfl
theorem reads9bits : waitsOk reads9T.2 reads9B = true := by kernel_rfl
theorem rRight_calls (v : Int) (l : List SgI) (hl : l.length ≤ 1000000) (A : Option Addr) (n c : Nat) (W : World) (b : Nat) (ok : Nat → Prop) (hR : Kd.R k48 48 W b ok (.slice A n c) (l.map cR)) :
    Calls Tryd.prog 15 #[.agg #[.int .i64 v, .slice A n c]] W fun e w' => e = .returned (.bool (rightB v l)) ∧ Below W.heap.size W w' := by
  obtain ⟨q, hq⟩ := Ev.rounds (ev_rRight v l hl)
  obtain ⟨rfl, hc, hC⟩ := Kd.R_reads' hR
  exact thwartref12_Right.calls q v A c (l.map cR) _ W hC hc hq
theorem rBytes_calls (v : Int) (l : List SgI) (hl : l.length ≤ 1000) (hu : ∀ x ∈ l, U32 x) (A : Option Addr) (n c : Nat) (W : World) (b : Nat) (ok : Nat → Prop) (hR : Kd.R k48 48 W b ok (.slice A n c) (l.map cR)) (x : ByteArray) (er : Int) (h : bytesR v l = (x, er)) :
    Calls Tryd.prog 9 #[.agg #[.int .i64 v, .slice A n c]] W fun e w' => e = .returned (.tuple #[.string x, .int .i64 er]) ∧ Below W.heap.size W w' := by
  obtain ⟨q, hq⟩ := Ev.rounds (ev_rBytes v l hl hu)
  rw [h] at hq
  obtain ⟨rfl, hc, hC⟩ := Kd.R_reads' hR
  exact thwartref12_Bytes.calls q v A c (l.map cR) _ _ W hC hc hq
theorem rRead_calls (b : ByteArray) (hb : b.size ≤ 3000) (v : Int) (l : List SgI) (er : Int) (h : rdT (L b) = (v, l.map cR, er)) (W : World) :
    Calls Tryd.prog 12 #[.string b] W fun e w' => ∃ A c, e = .returned (.tuple #[.agg #[.int .i64 v, .slice A l.length c], .int .i64 er]) ∧ Kd.R k48 48 w' W.heap.size (fun _ => True) (.slice A l.length c) (l.map cR) ∧ Below W.heap.size W w' := by
  obtain ⟨q, hq⟩ := Ev.rounds (ev_rRead b hb)
  rw [h] at hq
  refine (thwartref12_Read.calls q b v (l.map cR) er W hq).mono ?_
  rintro e w' ⟨v1, rfl, hR, hB⟩
  obtain ⟨A', c', rfl⟩ := Kd.R_slice hR
  rw [List.length_map] at hR ⊢
  exact ⟨A', c', rfl, hR, hB⟩
theorem reads_two {b : ByteArray} {w w' : World} {e : Ending} (h : ReadPost (L b) w e w') : ∃ (v2 : Int) (l2 : List SgI) (A2 : Option Addr) (c2 : Nat) (er2 : Int), e = .returned (.tuple #[.agg #[.int .i64 v2, .slice A2 l2.length c2], .int .i64 er2]) ∧ Kd.C k46 w' A2 l2.length l2 ∧ l2.length ≤ 1000000 ∧ l2.length ≤ c2 ∧ rdT (L b) = (v2, l2.map cR, er2) := by
  rcases h.2 with ⟨vn, ln, An, cn, h1, rfl, hR⟩ | ⟨en, h1, rfl⟩
  · obtain ⟨hb1, hb2, hb3, _⟩ := readR_of h1
    obtain ⟨h3, h4, h5⟩ := Kd.R_reads' hR
    have hlen := (rightB_of hb2).2.2.1
    exact ⟨(vn : Nat), ln.map mkSg, An, cn, 0, by rw [List.length_map], h5, by omega, by rw [List.length_map]; exact h4, rdT_some h1⟩
  · refine ⟨0, [], none, 0, en, rfl, Kd.C_nil _ _, by simp, Nat.le_refl _, ?_⟩
    unfold rdT
    rw [h1]
    rfl
set_option maxRecDepth 100000 in
set_option maxHeartbeats 12800000 in
theorem reads_walk (v : Int) (l : List SgI) (A : Option Addr) (c : Nat) (b : ByteArray) (w : World) (hL : LaidW w) (hC : Kd.C k46 w A l.length l) (hc : l.length ≤ c) (hu : ∀ x ∈ l, U32 x) :
    Calls Tryd.prog 3 #[.agg #[.int .i64 v, .slice A l.length c], .string b] w fun e w' => e = .returned (.bool true) ∧ Below w.heap.size w w' := by
  have HL := Aside0.mk hL
  have CM0 := Aside0.mk hC
  have HLC := Aside0.mk hc
  have HU := Aside0.mk hu
  clear hL hC hc hu
  go_enter Tryd.func3, Tryd.ntmps3
  go_wp2_with fail
  have L1 := Aside0.mk (HL.out.below ((Below.refl w.heap.size w).alloc (Nat.le_refl _) (.cells #[.int .i64 v, .slice A l.length c] 24)))
  refine (awake12.calls _ L1.out).mono ?_
  rintro e w1 ⟨rfl, b1⟩
  have B1 := Aside0.mk (((Below.refl w.heap.size w).alloc (Nat.le_refl _) (.cells #[.int .i64 v, .slice A l.length c] 24)).trans (b1.mono (by simp)))
  have XM1 := Aside0.mk (blk_below (blk_new w (.cells #[.int .i64 v, .slice A l.length c] 24)) b1)
  clear b1
  obtain ⟨c0, c1, fm⟩ := cells2m XM1.out
  by_cases h1 : 300 < l.length
  · have d1 : decide ((300 : Int) < (l.length : Int)) = true := decide_eq_true (by omega)
    go_wp2_with fail
    go_ret
    exact ⟨rfl, B1.out⟩
  have d1 : decide ((300 : Int) < (l.length : Int)) = false := decide_eq_false (by omega)
  by_cases h2 : 3000 < b.size
  · have d2 : decide ((3000 : Int) < (b.size : Int)) = true := decide_eq_true (by omega)
    go_wp2_with fail
    go_ret
    exact ⟨rfl, B1.out⟩
  have d2 : decide ((3000 : Int) < (b.size : Int)) = false := decide_eq_false (by omega)
  have HLL := Aside0.mk (show l.length ≤ 1000000 by omega)
  have HBS := Aside0.mk (show b.size ≤ 1000000 by omega)
  obtain ⟨q1, hq1⟩ := Ev.rounds (ev_Bytes v l (by omega) HU.out)
  have HQ1 := Aside0.mk hq1
  obtain ⟨x, hx⟩ : ∃ x, (bytesR v l).1 = x := ⟨_, rfl⟩
  obtain ⟨er, her⟩ : ∃ x, (bytesR v l).2 = x := ⟨_, rfl⟩
  have HXE := Aside0.mk (show bytesR v l = (x, er) by rw [← hx, ← her])
  rw [HXE.out] at HQ1
  have HXS := Aside0.mk (show x.size ≤ 1000000 by
    rw [← hx]
    unfold bytesR
    split
    · rename_i hr
      rw [B_size, sealS_length]
      unfold bodyS
      rw [List.length_append, List.length_append]
      have h3 := putS_len v.toNat
      have h4 := putS_len (l.map unSg).length
      have h5 := segsB_len (l.map unSg)
      rw [List.length_map] at h5
      omega
    · decide)
  clear hq1 hx her
  have CM1 := Aside0.mk (Kd.C_below CM0.out B1.out)
  go_wp2_with fail
  refine (manifest_Bytes.calls q1 v A c l _ _ _ CM1.out HLC.out HQ1.out).mono ?_
  rintro e w2 ⟨rfl, b2⟩
  have B2 := Aside0.mk (B1.out.trans (b2.mono B1.out.size))
  have XM2 := Aside0.mk (blk_below XM1.out b2)
  have CM2 := Aside0.mk (Kd.C_below CM1.out b2)
  clear b2 XM1 CM1 c0 c1 fm
  obtain ⟨c0, c1, fm⟩ := cells2m XM2.out
  go_wp2_with fail
  refine (to_calls v l HLL.out A c w2 CM2.out HLC.out).mono ?_
  rintro e w3 ⟨At, ct, rfl, hR, hb⟩
  have B3 := Aside0.mk (B2.out.trans (hb.mono B2.out.size))
  have XM3 := Aside0.mk (blk_below XM2.out hb)
  have RT := Aside0.mk hR
  clear hR hb XM2 CM2 c0 c1 fm
  go_wp2_with fail
  refine (rBytes_calls v l (by omega) HU.out At l.length ct w3 _ _ RT.out x er HXE.out).mono ?_
  rintro e w4 ⟨rfl, hb⟩
  have B4 := Aside0.mk (B3.out.trans (hb.mono B3.out.size))
  have XM4 := Aside0.mk (blk_below XM3.out hb)
  clear hb XM3 RT
  go_wp2_with fail
  refine (man_Read.calls b HBS.out w4).mono ?_
  rintro e w5 hpost
  have B5 := Aside0.mk (B4.out.trans (hpost.1.mono B4.out.size))
  have XM5 := Aside0.mk (blk_below XM4.out hpost.1)
  obtain ⟨v3, l3, A3, c3, er3, rfl, hC3, hl3, hlc3, hrd⟩ := reads_two hpost
  have C5 := Aside0.mk hC3
  have HL3 := Aside0.mk hl3
  have HC3 := Aside0.mk hlc3
  have HRD := Aside0.mk hrd
  clear hpost hC3 hl3 hlc3 hrd XM4
  go_wp2_with fail
  have XN5 := Aside0.mk (blk_new w5 (.cells #[.int .i64 v3, .slice A3 l3.length c3] 24))
  have XM5b := Aside0.mk (blk_alloc XM5.out (.cells #[.int .i64 v3, .slice A3 l3.length c3] 24))
  have C5b := Aside0.mk (Kd.C_below C5.out ((Below.refl _ _).alloc (Nat.le_refl _) (.cells #[.int .i64 v3, .slice A3 l3.length c3] 24)))
  refine (rRead_calls b (by omega) v3 l3 er3 HRD.out _).mono ?_
  rintro e w6 ⟨A4, c4, rfl, hR, hb⟩
  have B6 := Aside0.mk ((B5.out.alloc B5.out.size (.cells #[.int .i64 v3, .slice A3 l3.length c3] 24)).trans (hb.mono (by have := B5.out.size; simp; omega)))
  have XN6 := Aside0.mk (blk_below XN5.out hb)
  have XM6 := Aside0.mk (blk_below XM5b.out hb)
  have C6 := Aside0.mk (Kd.C_below C5b.out hb)
  have R6 := Aside0.mk hR
  clear hR hb XN5 XM5 XM5b C5 C5b
  obtain ⟨g, hg⟩ : ∃ g, w5.heap.size = g := ⟨_, rfl⟩
  rw [hg] at XN6 ⊢
  clear hg
  go_upto_region 8 with (fail)
  obtain ⟨wz, hwz⟩ : ∃ wz, w6.alloc (.cells #[.int .i64 v3, .slice A4 l3.length c4] 32) = wz := ⟨_, rfl⟩
  have XR := Aside0.mk (show wz.heap[w6.heap.size]? = some (.cells #[.int .i64 v3, .slice A4 l3.length c4] 32) by rw [← hwz]; exact blk_new _ _)
  have XN := Aside0.mk (show wz.heap[g]? = some (.cells #[.int .i64 v3, .slice A3 l3.length c3] 24) by rw [← hwz]; exact blk_alloc XN6.out _)
  have XM := Aside0.mk (show wz.heap[w.heap.size]? = some (.cells #[.int .i64 v, .slice A l.length c] 24) by rw [← hwz]; exact blk_alloc XM6.out _)
  have BZ := Aside0.mk (show Below w.heap.size w wz by rw [← hwz]; exact B6.out.alloc B6.out.size _)
  have C3 := Aside0.mk (show Kd.C k46 wz A3 l3.length l3 by rw [← hwz]; exact Kd.C_below C6.out ((Below.refl _ _).alloc (Nat.le_refl _) _))
  have R4 := Aside0.mk (show Kd.R k48 48 wz _ _ (.slice A4 l3.length c4) (l3.map cR) by rw [← hwz]; exact Kd.R_alloc R6.out _)
  have CM := Aside0.mk (show Kd.C k46 wz A l.length l from Kd.C_below CM0.out BZ.out)
  rw [hwz]
  obtain ⟨gr, hgr⟩ : ∃ g, w6.heap.size = g := ⟨_, rfl⟩
  rw [hgr] at XR ⊢
  clear hwz hgr XN6 XM6 C6 R6 B6 B5 B4 B3 B2 B1
  go_cut [14] from 47 to 51 (fun s14 wx => s14 = .bool true ∧ Aside0 (Below wz.heap.size wz wx))
  case first =>
    refine region_draw (n := 5) (S := fun W => Below wz.heap.size wz W) (ds := []) #[false, false, false, false, false] (by kernel_rfl) rfl rfl (fun W => Below wz.heap.size wz W) (by exact below_drew1 (Below.refl _ _)) (fun W h => h) ?_
    rintro ws hws
    refine with_tabW reads8tab reads8bits (fun HT_ HW_ => ?_)
    have BS := Aside0.mk hws
    clear hws
    refine take_ (i := 0) (N := some 47) (v := ?_) (a' := ?_) #[true, false, false, false, false] rfl rfl (take_ofW HT_.out HW_.out (by kernel_rfl)) (fun _ _ _ h => h) (Or.inl ⟨by rfl, ?_⟩) BS.out ?_ ?_
    rotate_left
    · intro w' hW
      obtain ⟨m0, m1, mf⟩ := cells2m (blk_below XN.out hW)
      go_simp
      with_reducible rfl
    rotate_left
    · simp only [Act.put, List.setIfInBounds_toArray, List.set_cons_zero, List.set_cons_succ, i64_w, i32_w]
      rfl
    refine take_ (i := 2) (N := some 49) (v := ?_) (a' := ?_) #[true, false, true, false, false] rfl rfl (take_ofW HT_.out HW_.out (by kernel_rfl)) (fun _ _ _ h => h) (Or.inl ⟨by rfl, ?_⟩) BS.out ?_ ?_
    rotate_left
    · intro w' hW
      obtain ⟨n0, n1, nf⟩ := cells2m (blk_below XR.out hW)
      go_simp
      with_reducible rfl
    rotate_left
    · simp only [Act.put, List.setIfInBounds_toArray, List.set_cons_zero, List.set_cons_succ, i64_w, i32_w]
      rfl
    refine one_ (i := 1) (N := some 48) #[true, true, true, false, false] rfl rfl (one_of HT_.out (by kernel_rfl)) (by decide) (fun K hK => ?_)
    refine goes_ Tryd.func10 (by kernel_rfl) rfl #[.agg #[.int .i64 v3, .slice A3 l3.length c3]] (by rfl) rfl rfl (by (try simp only [List.map_toArray, List.map_cons, List.map_nil]); first | done | rfl) ?_
    refine (to_calls v3 l3 HL3.out A3 c3 ws (Kd.C_below C3.out BS.out) HC3.out).mono ?_
    rintro e wp ⟨AM, cM, rfl, hR, hb⟩
    refine ⟨_, rfl, ?_⟩
    have BP := Aside0.mk (BS.out.trans (hb.mono BS.out.size))
    have RM := Aside0.mk hR
    clear hR hb
    refine hK.out _ _ BP.out (fun _ => ?_)
    clear hK K
    refine norm_ (a' := ?_) ?_ ?_
    rotate_left
    · show Act.put _ (some 48) _ = _
      simp only [Act.put, List.setIfInBounds_toArray, List.set_cons_zero, List.set_cons_succ, i64_w, i32_w]
      rfl
    refine one_ (i := 3) (N := some 50) #[true, true, true, true, false] rfl rfl (one_of HT_.out (by kernel_rfl)) (by decide) (fun K hK => ?_)
    refine goes_ Tryd.func13 (by kernel_rfl) rfl #[.agg #[.int .i64 v3, .slice AM l3.length cM], .agg #[.int .i64 v3, .slice A4 l3.length c4]] (by rfl) rfl rfl (by (try simp only [List.map_toArray, List.map_cons, List.map_nil]); first | done | rfl) ?_
    refine (same_calls v3 v3 (l3.map cR) (l3.map cR) (by rw [List.length_map]; exact HL3.out) (by rw [List.length_map]; exact HL3.out) AM A4 l3.length l3.length cM c4 wp _ _ _ _ RM.out (Kd.R_below R4.out BP.out)).mono ?_
    rintro e wr ⟨rfl, hb⟩
    refine ⟨_, rfl, ?_⟩
    rw [show decide (v3 = v3 ∧ l3.map cR = l3.map cR) = true from decide_eq_true ⟨rfl, rfl⟩]
    have BR := Aside0.mk (BP.out.trans (hb.mono BP.out.size))
    clear hb
    refine hK.out _ _ BR.out (fun _ => ?_)
    clear hK K
    refine norm_ (a' := ?_) ?_ ?_
    rotate_left
    · show Act.put _ (some 50) _ = _
      simp only [Act.put, List.setIfInBounds_toArray, List.set_cons_zero, List.set_cons_succ, i64_w, i32_w]
      rfl
    refine pure_ (i := 4) (N := some 14) (v := ?_) (a' := ?_) #[true, true, true, true, true] rfl rfl (any_of HT_.out (by kernel_rfl)) (fun _ _ _ h => h) (Or.inl ⟨by rfl, ?_⟩) ?_ ?_
    rotate_left
    · intro w'
      go_simp
      with_reducible rfl
    rotate_left
    · simp only [Act.put, List.setIfInBounds_toArray, List.set_cons_zero, List.set_cons_succ, i64_w, i32_w]
      rfl
    refine done_ (done_of HT_.out (by kernel_rfl)) ?_
    go_wp2_with fail
    go_meet
    case rel => exact ⟨rfl, BR⟩
  case rest =>
    obtain ⟨rfl, BC⟩ := hcut
    have B9 := Aside0.mk (BZ.out.trans (BC.out.mono BZ.out.size))
    have XC := Aside0.mk (blk_below XM.out BC.out)
    have CC := Aside0.mk (Kd.C_below CM.out BC.out)
    clear BC XM XN XR C3 R4 CM
    obtain ⟨q5, hq5⟩ := Ev.rounds (ev_Right v l (by omega))
    have HQ5 := Aside0.mk hq5
    clear hq5
    go_upto_region 9 with (fail)
    refine region_draw (n := 28) (S := fun W => Below wc.heap.size wc W) (ds := []) #[false, false, false, false, false, false, false, false, false, false, false, false, false, false, false, false, false, false, false, false, false, false, false, false, false, false, false, false] (by kernel_rfl) rfl rfl (fun W => Below wc.heap.size wc W) (by exact below_drew1 (Below.refl _ _)) (fun W h => h) ?_
    rintro ws hws
    refine with_tabW reads9tab reads9bits (fun HT_ HW_ => ?_)
    have BS := Aside0.mk hws
    clear hws
    refine pure_ (i := 0) (N := some 51) (v := ?_) (a' := ?_) #[true, false, false, false, false, false, false, false, false, false, false, false, false, false, false, false, false, false, false, false, false, false, false, false, false, false, false, false] rfl rfl (any_of HT_.out (by kernel_rfl)) (fun _ _ _ h => h) (Or.inl ⟨by rfl, ?_⟩) ?_ ?_
    rotate_left
    · intro w'
      go_simp
      with_reducible rfl
    rotate_left
    · simp only [Act.put, List.setIfInBounds_toArray, List.set_cons_zero, List.set_cons_succ, i64_w, i32_w]
      rfl
    refine pure_ (i := 1) (N := some 52) (v := ?_) (a' := ?_) #[true, true, false, false, false, false, false, false, false, false, false, false, false, false, false, false, false, false, false, false, false, false, false, false, false, false, false, false] rfl rfl (any_of HT_.out (by kernel_rfl)) (fun _ _ _ h => h) (Or.inl ⟨by rfl, ?_⟩) ?_ ?_
    rotate_left
    · intro w'
      go_simp
      with_reducible rfl
    rotate_left
    · simp only [Act.put, List.setIfInBounds_toArray, List.set_cons_zero, List.set_cons_succ, i64_w, i32_w]
      rfl
    refine pure_ (i := 2) (N := some 53) (v := ?_) (a' := ?_) #[true, true, true, false, false, false, false, false, false, false, false, false, false, false, false, false, false, false, false, false, false, false, false, false, false, false, false, false] rfl rfl (any_of HT_.out (by kernel_rfl)) (fun _ _ _ h => h) (Or.inl ⟨by rfl, ?_⟩) ?_ ?_
    rotate_left
    · intro w'
      go_simp
      with_reducible rfl
    rotate_left
    · simp only [Act.put, List.setIfInBounds_toArray, List.set_cons_zero, List.set_cons_succ, i64_w, i32_w]
      rfl
    refine pure_ (i := 3) (N := some 54) (v := ?_) (a' := ?_) #[true, true, true, true, false, false, false, false, false, false, false, false, false, false, false, false, false, false, false, false, false, false, false, false, false, false, false, false] rfl rfl (any_of HT_.out (by kernel_rfl)) (fun _ _ _ h => h) (Or.inl ⟨by rfl, ?_⟩) ?_ ?_
    rotate_left
    · intro w'
      go_simp
      with_reducible rfl
    rotate_left
    · simp only [Act.put, List.setIfInBounds_toArray, List.set_cons_zero, List.set_cons_succ, i64_w, i32_w]
      rfl
    refine pure_ (i := 4) (N := some 55) (v := ?_) (a' := ?_) #[true, true, true, true, true, false, false, false, false, false, false, false, false, false, false, false, false, false, false, false, false, false, false, false, false, false, false, false] rfl rfl (any_of HT_.out (by kernel_rfl)) (fun _ _ _ h => h) (Or.inl ⟨by rfl, ?_⟩) ?_ ?_
    rotate_left
    · intro w'
      go_simp
      with_reducible rfl
    rotate_left
    · simp only [Act.put, List.setIfInBounds_toArray, List.set_cons_zero, List.set_cons_succ, i64_w, i32_w]
      rfl
    refine pure_ (i := 5) (N := some 56) (v := ?_) (a' := ?_) #[true, true, true, true, true, true, false, false, false, false, false, false, false, false, false, false, false, false, false, false, false, false, false, false, false, false, false, false] rfl rfl (any_of HT_.out (by kernel_rfl)) (fun _ _ _ h => h) (Or.inl ⟨by rfl, ?_⟩) ?_ ?_
    rotate_left
    · intro w'
      go_simp
      with_reducible rfl
    rotate_left
    · simp only [Act.put, List.setIfInBounds_toArray, List.set_cons_zero, List.set_cons_succ, i64_w, i32_w]
      rfl
    refine pure_ (i := 6) (N := some 57) (v := ?_) (a' := ?_) #[true, true, true, true, true, true, true, false, false, false, false, false, false, false, false, false, false, false, false, false, false, false, false, false, false, false, false, false] rfl rfl (any_of HT_.out (by kernel_rfl)) (fun _ _ _ h => h) (Or.inl ⟨by rfl, ?_⟩) ?_ ?_
    rotate_left
    · intro w'
      go_simp
      with_reducible rfl
    rotate_left
    · simp only [Act.put, List.setIfInBounds_toArray, List.set_cons_zero, List.set_cons_succ, i64_w, i32_w]
      rfl
    refine pure_ (i := 7) (N := some 58) (v := ?_) (a' := ?_) #[true, true, true, true, true, true, true, true, false, false, false, false, false, false, false, false, false, false, false, false, false, false, false, false, false, false, false, false] rfl rfl (any_of HT_.out (by kernel_rfl)) (fun _ _ _ h => h) (Or.inl ⟨by rfl, ?_⟩) ?_ ?_
    rotate_left
    · intro w'
      go_simp
      with_reducible rfl
    rotate_left
    · simp only [Act.put, List.setIfInBounds_toArray, List.set_cons_zero, List.set_cons_succ, i64_w, i32_w]
      rfl
    refine pure_ (i := 8) (N := some 59) (v := ?_) (a' := ?_) #[true, true, true, true, true, true, true, true, true, false, false, false, false, false, false, false, false, false, false, false, false, false, false, false, false, false, false, false] rfl rfl (any_of HT_.out (by kernel_rfl)) (fun _ _ _ h => h) (Or.inl ⟨by rfl, ?_⟩) ?_ ?_
    rotate_left
    · intro w'
      go_simp
      with_reducible rfl
    rotate_left
    · simp only [Act.put, List.setIfInBounds_toArray, List.set_cons_zero, List.set_cons_succ, i64_w, i32_w]
      rfl
    refine pure_ (i := 9) (N := some 60) (v := ?_) (a' := ?_) #[true, true, true, true, true, true, true, true, true, true, false, false, false, false, false, false, false, false, false, false, false, false, false, false, false, false, false, false] rfl rfl (any_of HT_.out (by kernel_rfl)) (fun _ _ _ h => h) (Or.inl ⟨by rfl, ?_⟩) ?_ ?_
    rotate_left
    · intro w'
      go_simp
      with_reducible rfl
    rotate_left
    · simp only [Act.put, List.setIfInBounds_toArray, List.set_cons_zero, List.set_cons_succ, i64_w, i32_w]
      rfl
    refine pure_ (i := 10) (N := some 61) (v := ?_) (a' := ?_) #[true, true, true, true, true, true, true, true, true, true, true, false, false, false, false, false, false, false, false, false, false, false, false, false, false, false, false, false] rfl rfl (any_of HT_.out (by kernel_rfl)) (fun _ _ _ h => h) (Or.inl ⟨by rfl, ?_⟩) ?_ ?_
    rotate_left
    · intro w'
      go_simp
      with_reducible rfl
    rotate_left
    · simp only [Act.put, List.setIfInBounds_toArray, List.set_cons_zero, List.set_cons_succ, i64_w, i32_w]
      rfl
    refine pure_ (i := 11) (N := some 62) (v := ?_) (a' := ?_) #[true, true, true, true, true, true, true, true, true, true, true, true, false, false, false, false, false, false, false, false, false, false, false, false, false, false, false, false] rfl rfl (any_of HT_.out (by kernel_rfl)) (fun _ _ _ h => h) (Or.inl ⟨by rfl, ?_⟩) ?_ ?_
    rotate_left
    · intro w'
      go_simp
      with_reducible rfl
    rotate_left
    · simp only [Act.put, List.setIfInBounds_toArray, List.set_cons_zero, List.set_cons_succ, i64_w, i32_w]
      rfl
    refine pure_ (i := 12) (N := some 63) (v := ?_) (a' := ?_) #[true, true, true, true, true, true, true, true, true, true, true, true, true, false, false, false, false, false, false, false, false, false, false, false, false, false, false, false] rfl rfl (any_of HT_.out (by kernel_rfl)) (fun _ _ _ h => h) (Or.inl ⟨by rfl, ?_⟩) ?_ ?_
    rotate_left
    · intro w'
      go_simp
      with_reducible rfl
    rotate_left
    · simp only [Act.put, List.setIfInBounds_toArray, List.set_cons_zero, List.set_cons_succ, i64_w, i32_w]
      rfl
    refine pure_ (i := 13) (N := some 64) (v := ?_) (a' := ?_) #[true, true, true, true, true, true, true, true, true, true, true, true, true, true, false, false, false, false, false, false, false, false, false, false, false, false, false, false] rfl rfl (any_of HT_.out (by kernel_rfl)) (fun _ _ _ h => h) (Or.inl ⟨by rfl, ?_⟩) ?_ ?_
    rotate_left
    · intro w'
      go_simp
      with_reducible rfl
    rotate_left
    · simp only [Act.put, List.setIfInBounds_toArray, List.set_cons_zero, List.set_cons_succ, i64_w, i32_w]
      rfl
    refine pure_ (i := 14) (N := some 65) (v := ?_) (a' := ?_) #[true, true, true, true, true, true, true, true, true, true, true, true, true, true, true, false, false, false, false, false, false, false, false, false, false, false, false, false] rfl rfl (any_of HT_.out (by kernel_rfl)) (fun _ _ _ h => h) (Or.inl ⟨by rfl, ?_⟩) ?_ ?_
    rotate_left
    · intro w'
      go_simp
      with_reducible rfl
    rotate_left
    · simp only [Act.put, List.setIfInBounds_toArray, List.set_cons_zero, List.set_cons_succ, i64_w, i32_w]
      rfl
    refine pure_ (i := 15) (N := some 66) (v := ?_) (a' := ?_) #[true, true, true, true, true, true, true, true, true, true, true, true, true, true, true, true, false, false, false, false, false, false, false, false, false, false, false, false] rfl rfl (any_of HT_.out (by kernel_rfl)) (fun _ _ _ h => h) (Or.inl ⟨by rfl, ?_⟩) ?_ ?_
    rotate_left
    · intro w'
      go_simp
      with_reducible rfl
    rotate_left
    · simp only [Act.put, List.setIfInBounds_toArray, List.set_cons_zero, List.set_cons_succ, i64_w, i32_w]
      rfl
    refine pure_ (i := 16) (N := some 67) (v := ?_) (a' := ?_) #[true, true, true, true, true, true, true, true, true, true, true, true, true, true, true, true, true, false, false, false, false, false, false, false, false, false, false, false] rfl rfl (any_of HT_.out (by kernel_rfl)) (fun _ _ _ h => h) (Or.inl ⟨by rfl, ?_⟩) ?_ ?_
    rotate_left
    · intro w'
      go_simp
      with_reducible rfl
    rotate_left
    · simp only [Act.put, List.setIfInBounds_toArray, List.set_cons_zero, List.set_cons_succ, i64_w, i32_w]
      rfl
    refine pure_ (i := 17) (N := some 68) (v := ?_) (a' := ?_) #[true, true, true, true, true, true, true, true, true, true, true, true, true, true, true, true, true, true, false, false, false, false, false, false, false, false, false, false] rfl rfl (any_of HT_.out (by kernel_rfl)) (fun _ _ _ h => h) (Or.inl ⟨by rfl, ?_⟩) ?_ ?_
    rotate_left
    · intro w'
      go_simp
      with_reducible rfl
    rotate_left
    · simp only [Act.put, List.setIfInBounds_toArray, List.set_cons_zero, List.set_cons_succ, i64_w, i32_w]
      rfl
    refine pure_ (i := 18) (N := some 69) (v := ?_) (a' := ?_) #[true, true, true, true, true, true, true, true, true, true, true, true, true, true, true, true, true, true, true, false, false, false, false, false, false, false, false, false] rfl rfl (any_of HT_.out (by kernel_rfl)) (fun _ _ _ h => h) (Or.inl ⟨by rfl, ?_⟩) ?_ ?_
    rotate_left
    · intro w'
      go_simp
      with_reducible rfl
    rotate_left
    · simp only [Act.put, List.setIfInBounds_toArray, List.set_cons_zero, List.set_cons_succ, i64_w, i32_w]
      rfl
    refine pure_ (i := 19) (N := some 70) (v := ?_) (a' := ?_) #[true, true, true, true, true, true, true, true, true, true, true, true, true, true, true, true, true, true, true, true, false, false, false, false, false, false, false, false] rfl rfl (any_of HT_.out (by kernel_rfl)) (fun _ _ _ h => h) (Or.inl ⟨by rfl, ?_⟩) ?_ ?_
    rotate_left
    · intro w'
      go_simp
      with_reducible rfl
    rotate_left
    · simp only [Act.put, List.setIfInBounds_toArray, List.set_cons_zero, List.set_cons_succ, i64_w, i32_w]
      rfl
    refine take_ (i := 20) (N := some 71) (v := ?_) (a' := ?_) #[true, true, true, true, true, true, true, true, true, true, true, true, true, true, true, true, true, true, true, true, true, false, false, false, false, false, false, false] rfl rfl (take_ofW HT_.out HW_.out (by kernel_rfl)) (fun _ _ _ h => h) (Or.inl ⟨by rfl, ?_⟩) BS.out ?_ ?_
    rotate_left
    · intro w' hW
      obtain ⟨m0, m1, mf⟩ := cells2m (blk_below XC.out hW)
      go_simp
      with_reducible rfl
    rotate_left
    · simp only [Act.put, List.setIfInBounds_toArray, List.set_cons_zero, List.set_cons_succ, i64_w, i32_w]
      rfl
    refine take_ (i := 22) (N := some 73) (v := ?_) (a' := ?_) #[true, true, true, true, true, true, true, true, true, true, true, true, true, true, true, true, true, true, true, true, true, false, true, false, false, false, false, false] rfl rfl (take_ofW HT_.out HW_.out (by kernel_rfl)) (fun _ _ _ h => h) (Or.inl ⟨by rfl, ?_⟩) BS.out ?_ ?_
    rotate_left
    · intro w' hW
      obtain ⟨m0, m1, mf⟩ := cells2m (blk_below XC.out hW)
      go_simp
      with_reducible rfl
    rotate_left
    · simp only [Act.put, List.setIfInBounds_toArray, List.set_cons_zero, List.set_cons_succ, i64_w, i32_w]
      rfl
    refine one_ (i := 21) (N := some 72) #[true, true, true, true, true, true, true, true, true, true, true, true, true, true, true, true, true, true, true, true, true, true, true, false, false, false, false, false] rfl rfl (one_of HT_.out (by kernel_rfl)) (by decide) (fun K hK => ?_)
    refine goes_ Tryd.func14 (by kernel_rfl) rfl #[.agg #[.int .i64 v, .slice A l.length c]] (by rfl) rfl rfl (by (try simp only [List.map_toArray, List.map_cons, List.map_nil]); first | done | rfl) ?_
    refine (manifest_Right.calls q5 v A c l _ ws (Kd.C_below CC.out BS.out) HLC.out HQ5.out).mono ?_
    rintro e wp ⟨rfl, hb⟩
    refine ⟨_, rfl, ?_⟩
    have BP := Aside0.mk (BS.out.trans (hb.mono BS.out.size))
    clear hb
    refine hK.out _ _ BP.out (fun _ => ?_)
    clear hK K
    refine norm_ (a' := ?_) ?_ ?_
    rotate_left
    · show Act.put _ (some 72) _ = _
      simp only [Act.put, List.setIfInBounds_toArray, List.set_cons_zero, List.set_cons_succ, i64_w, i32_w]
      rfl
    refine one_ (i := 23) (N := some 74) #[true, true, true, true, true, true, true, true, true, true, true, true, true, true, true, true, true, true, true, true, true, true, true, true, false, false, false, false] rfl rfl (one_of HT_.out (by kernel_rfl)) (by decide) (fun K hK => ?_)
    refine goes_ Tryd.func10 (by kernel_rfl) rfl #[.agg #[.int .i64 v, .slice A l.length c]] (by rfl) rfl rfl (by (try simp only [List.map_toArray, List.map_cons, List.map_nil]); first | done | rfl) ?_
    refine (to_calls v l HLL.out A c wp (Kd.C_below CC.out BP.out) HLC.out).mono ?_
    rintro e wq ⟨AM, cM, rfl, hR, hb⟩
    refine ⟨_, rfl, ?_⟩
    have BQ := Aside0.mk (BP.out.trans (hb.mono BP.out.size))
    have RM := Aside0.mk hR
    clear hR hb
    refine hK.out _ _ BQ.out (fun _ => ?_)
    clear hK K
    refine norm_ (a' := ?_) ?_ ?_
    rotate_left
    · show Act.put _ (some 74) _ = _
      simp only [Act.put, List.setIfInBounds_toArray, List.set_cons_zero, List.set_cons_succ, i64_w, i32_w]
      rfl
    refine one_ (i := 24) (N := some 75) #[true, true, true, true, true, true, true, true, true, true, true, true, true, true, true, true, true, true, true, true, true, true, true, true, true, false, false, false] rfl rfl (one_of HT_.out (by kernel_rfl)) (by decide) (fun K hK => ?_)
    refine goes_ Tryd.func15 (by kernel_rfl) rfl #[.agg #[.int .i64 v, .slice AM l.length cM]] (by rfl) rfl rfl (by (try simp only [List.map_toArray, List.map_cons, List.map_nil]); first | done | rfl) ?_
    refine (rRight_calls v l HLL.out AM l.length cM wq _ _ RM.out).mono ?_
    rintro e wr ⟨rfl, hb⟩
    refine ⟨_, rfl, ?_⟩
    have BR := Aside0.mk (BQ.out.trans (hb.mono BQ.out.size))
    clear hb
    refine hK.out _ _ BR.out (fun _ => ?_)
    clear hK K
    refine norm_ (a' := ?_) ?_ ?_
    rotate_left
    · show Act.put _ (some 75) _ = _
      simp only [Act.put, List.setIfInBounds_toArray, List.set_cons_zero, List.set_cons_succ, i64_w, i32_w]
      rfl
    refine pure_ (i := 25) (N := some 76) (v := ?_) (a' := ?_) #[true, true, true, true, true, true, true, true, true, true, true, true, true, true, true, true, true, true, true, true, true, true, true, true, true, true, false, false] rfl rfl (any_of HT_.out (by kernel_rfl)) (fun _ _ _ h => h) (Or.inl ⟨by rfl, ?_⟩) ?_ ?_
    rotate_left
    · intro w'
      go_simp
      with_reducible rfl
    rotate_left
    · simp only [Act.put, List.setIfInBounds_toArray, List.set_cons_zero, List.set_cons_succ, i64_w, i32_w]
      rfl
    refine pure_ (i := 26) (N := some 77) (v := ?_) (a' := ?_) #[true, true, true, true, true, true, true, true, true, true, true, true, true, true, true, true, true, true, true, true, true, true, true, true, true, true, true, false] rfl rfl (any_of HT_.out (by kernel_rfl)) (fun _ _ _ h => h) (Or.inl ⟨by rfl, ?_⟩) ?_ ?_
    rotate_left
    · intro w'
      go_simp
      with_reducible rfl
    rotate_left
    · simp only [Act.put, List.setIfInBounds_toArray, List.set_cons_zero, List.set_cons_succ, i64_w, i32_w]
      rfl
    refine pure_ (i := 27) (N := some 4) (v := ?_) (a' := ?_) #[true, true, true, true, true, true, true, true, true, true, true, true, true, true, true, true, true, true, true, true, true, true, true, true, true, true, true, true] rfl rfl (any_of HT_.out (by kernel_rfl)) (fun _ _ _ h => h) (Or.inl ⟨by rfl, ?_⟩) ?_ ?_
    rotate_left
    · intro w'
      go_simp
      with_reducible rfl
    rotate_left
    · simp only [Act.put, List.setIfInBounds_toArray, List.set_cons_zero, List.set_cons_succ, i64_w, i32_w]
      rfl
    refine done_ (done_of HT_.out (by kernel_rfl)) ?_
    go_wp2_with fail
    go_ret
    refine ⟨?_, B9.out.trans (BR.out.mono B9.out.size)⟩
    simp
structure S24 where
  f0 : Int
  f1 : (List S46)
def z24 : S24 := ⟨(0 : Int), ([] : List S46)⟩
def k24 : Kd S24 := Kd.iso (Kd.pair (Kd.int .i64) (Kd.slice 46 k46)) (fun x : S24 => (x.f0, x.f1))
theorem k24_open {w : World} {x : S24} {cs : List Value} (h : k24.K w x cs) : ∃ A1 c1, cs = [.int .i64 x.f0, .slice A1 x.f1.length c1] ∧ x.f1.length ≤ c1 ∧ k46.C w A1 x.f1.length x.f1 := by
  obtain ⟨_, _, rfl, rfl, ⟨A1, c1, rfl, l1, g1⟩⟩ := h
  exact ⟨A1, c1, rfl, l1, g1⟩
theorem reads_wide (a0 : S24) (cs0 : Array Value) (a1 : ByteArray) (w : World) (K0 : k24.K w a0 cs0.toList) (G0 : ((Lit.int .i64 a0.f0).wf = true ∧ (a0.f1.length ≤ 9223372036854775807 ∧ ∀ e101 ∈ a0.f1, ((Lit.int .i64 e101.f0).wf = true ∧ (Lit.int .i64 e101.f1).wf = true ∧ (Lit.int .u32 e101.f2).wf = true)))) (hL : LaidW w) :
    Calls Tryd.prog 3 #[.agg cs0, .string a1] w fun e w' => e = .returned (.bool true) ∧ Below w.heap.size w w' := by
  obtain ⟨A, c, e0, hc, hC⟩ := k24_open K0
  replace e0 := congrArg List.toArray e0
  rw [Array.toArray_toList] at e0
  subst e0
  refine reads_walk a0.f0 a0.f1 A c a1 w hL hC hc fun x hx => ?_
  have h := (G0.2.2 x hx).2.2
  simp [Lit.wf, IntKind.min, IntKind.max, IntKind.bits, IntKind.signed] at h
  unfold U32
  omega
end Go.Proofs.YtgampcbjmdgciaaDoor.Thw
