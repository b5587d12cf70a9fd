/- Layer 12: ManifestNames' walk. -/
import Derived.Test.YtgampcbjmdgciaaDoorEv12g
namespace Go.Proofs.YtgampcbjmdgciaaDoor.Thw
open Go Go.RowKit Go.Proofs.YtgampcbjmdgciaaDoor.Print Go.Proofs.YtgampcbjmdgciaaDoorW.PrintWords Go.Proofs.YtgampcbjmdgciaaDoorW.PrintLast Go.Proofs.YtgampcbjmdgciaaDoorW.PrintMore
set_option linter.unusedVariables false
set_option linter.unusedSimpArgs false
set_option maxHeartbeats 6400000 in
theorem names_walk (n : Int) (s b : ByteArray) (hn : -9223372036854775808 ≤ n ∧ n ≤ 9223372036854775807) (w : World) (hL : LaidW w) :
    Calls Tryd.prog 4 #[.int .i64 n, .string s, .string b] w fun e w' => e = .returned (.bool true) ∧ Below w.heap.size w w' := by
  have HL := Aside0.mk hL
  clear hL
  go_enter Tryd.func4, Tryd.ntmps4
  go_wp2_with fail
  refine (awake12.calls _ HL.out).mono ?_
  rintro e w1 ⟨rfl, b1⟩
  have B1 := Aside0.mk b1
  clear b1
  by_cases h1 : 100 < s.size
  · have d1 : decide ((100 : Int) < (s.size : Int)) = true := decide_eq_true (by omega)
    go_wp2_with fail
    go_ret
    exact ⟨rfl, B1.out⟩
  have d1 : decide ((100 : Int) < (s.size : Int)) = false := decide_eq_false (by omega)
  by_cases h2 : 1000 < b.size
  · have d2 : decide ((1000 : Int) < (b.size : Int)) = true := decide_eq_true (by omega)
    go_wp2_with fail
    go_ret
    exact ⟨rfl, B1.out⟩
  have d2 : decide ((1000 : Int) < (b.size : Int)) = false := decide_eq_false (by omega)
  have hs : s.size ≤ 100 := by omega
  have hb : b.size ≤ 1000 := by omega
  obtain ⟨r, hr, hev⟩ := ev_rVersion s (by omega)
  obtain ⟨q1, hq1⟩ := Ev.rounds hev
  obtain ⟨q2, hq2⟩ := Ev.rounds (ev_rOf n b (by omega))
  obtain ⟨q3, hq3⟩ := Ev.rounds (ev_rName n hn)
  obtain ⟨q4, hq4⟩ := Ev.rounds (ev_rObject n hn)
  have HR := Aside0.mk hr
  have HQ1 := Aside0.mk hq1
  have HQ2 := Aside0.mk hq2
  have HQ3 := Aside0.mk hq3
  have HQ4 := Aside0.mk hq4
  have HOF := Aside0.mk (manifest_Of_S n b (by omega))
  clear hr hev hq1 hq2 hq3 hq4
  generalize ((sumS2 (L b) : Nat) : Int) = z at HQ2 HOF
  have HSZ := Aside0.mk (show s.size ≤ 1000000 by omega)
  go_wp2_with fail
  refine (man_Version.calls s HSZ.out _ (HL.out.below B1.out)).mono ?_
  rintro e w2 ⟨⟨r', hr', rfl⟩, b2⟩
  obtain rfl := verO_uniq hr' HR.out
  have B2 := Aside0.mk (B1.out.trans (b2.mono B1.out.size))
  clear b2 hr'
  obtain ⟨rn, rb⟩ := r'
  go_wp2_with fail
  refine (thwartref12_Version.calls q1 s _ _ _ HQ1.out).mono ?_
  rintro e w3 ⟨rfl, b3⟩
  have B3 := Aside0.mk (B2.out.trans (b3.mono B2.out.size))
  clear b3
  go_wp2_with fail
  refine (manifest_Of.calls n b _ _ _ _ HOF.out).mono ?_
  rintro e w4 ⟨rfl, b4⟩
  have B4 := Aside0.mk (B3.out.trans (b4.mono B3.out.size))
  clear b4
  go_wp2_with fail
  obtain ⟨w5, hw5⟩ : ∃ w5, w4.alloc (.cells #[.int .i64 n, .int .i64 (b.size : Int), .int .u32 z] 46) = w5 := ⟨_, rfl⟩
  have X5 := Aside0.mk (show w5.heap[w4.heap.size]? = some (.cells #[.int .i64 n, .int .i64 (b.size : Int), .int .u32 z] 46) by rw [← hw5]; exact blk_new _ _)
  have B5 := Aside0.mk (show Below w.heap.size w w5 by rw [← hw5]; exact B4.out.alloc B4.out.size _)
  rw [hw5]
  obtain ⟨g1, hg1⟩ : ∃ g, w4.heap.size = g := ⟨_, rfl⟩
  rw [hg1] at X5 ⊢
  clear hw5 hg1 B4
  refine (thwartref12_Of.calls q2 n b _ _ _ _ HQ2.out).mono ?_
  rintro e w6 ⟨rfl, b6⟩
  have X6 := Aside0.mk (blk_below X5.out b6)
  have B6 := Aside0.mk (B5.out.trans (b6.mono B5.out.size))
  clear b6 X5 B5
  go_wp2_with fail
  obtain ⟨w7, hw7⟩ : ∃ w7, w6.alloc (.cells #[.int .i64 n, .int .i64 (b.size : Int), .int .u32 z] 48) = w7 := ⟨_, rfl⟩
  have Y7 := Aside0.mk (show w7.heap[w6.heap.size]? = some (.cells #[.int .i64 n, .int .i64 (b.size : Int), .int .u32 z] 48) by rw [← hw7]; exact blk_new _ _)
  have X7 := Aside0.mk (show w7.heap[g1]? = some (.cells #[.int .i64 n, .int .i64 (b.size : Int), .int .u32 z] 46) by rw [← hw7]; exact blk_alloc X6.out _)
  have B7 := Aside0.mk (show Below w.heap.size w w7 by rw [← hw7]; exact B6.out.alloc B6.out.size _)
  rw [hw7]
  obtain ⟨g2, hg2⟩ : ∃ g, w6.heap.size = g := ⟨_, rfl⟩
  rw [hg2] at Y7 ⊢
  clear hw7 hg2 B6 X6
  obtain ⟨nm, hnm⟩ : ∃ x, nameB 109 n 1 = x := ⟨_, rfl⟩
  obtain ⟨om, hom⟩ : ∃ x, nameB 111 n 0 = x := ⟨_, rfl⟩
  rw [hnm] at HQ3
  rw [hom] at HQ4
  have HNM := Aside0.mk hnm
  have HOM := Aside0.mk hom
  clear hnm hom
  refine (man_Name.calls n hn _ (HL.out.below B7.out)).mono ?_
  rintro e w8 ⟨rfl, b8⟩
  rw [HNM.out]
  have B8 := Aside0.mk (B7.out.trans (b8.mono B7.out.size))
  have X8 := Aside0.mk (blk_below X7.out b8)
  have Y8 := Aside0.mk (blk_below Y7.out b8)
  clear b8 X7 Y7 B7
  go_wp2_with fail
  refine (thwartref12_Name.calls q3 n _ _ HQ3.out).mono ?_
  rintro e w9 ⟨rfl, b9⟩
  have B9 := Aside0.mk (B8.out.trans (b9.mono B8.out.size))
  have X9 := Aside0.mk (blk_below X8.out b9)
  have Y9 := Aside0.mk (blk_below Y8.out b9)
  clear b9 X8 Y8 B8
  go_wp2_with fail
  refine (man_Object.calls n hn _ (HL.out.below B9.out)).mono ?_
  rintro e wa ⟨rfl, ba⟩
  rw [HOM.out]
  have Ba := Aside0.mk (B9.out.trans (ba.mono B9.out.size))
  have Xa := Aside0.mk (blk_below X9.out ba)
  have Ya := Aside0.mk (blk_below Y9.out ba)
  clear ba X9 Y9 B9
  go_wp2_with fail
  refine (thwartref12_Object.calls q4 n _ _ HQ4.out).mono ?_
  rintro e wb ⟨rfl, bb⟩
  have Bb := Aside0.mk (Ba.out.trans (bb.mono Ba.out.size))
  obtain ⟨x0, x1, x2⟩ := cells3g (blk_below Xa.out bb)
  obtain ⟨y0, y1, y2⟩ := cells3g (blk_below Ya.out bb)
  clear bb Xa Ya Ba
  have hrr : (rb == rb) = true := beq_self_eq_true _
  go_wp2_with fail
  go_ret
  exact ⟨rfl, Bb.out⟩
end Go.Proofs.YtgampcbjmdgciaaDoor.Thw
