/- Written by a program of mine (give.py, over the kit's print) out of the translation: contracts of the Go functions. Lean checks it. -/
import Derived.Test.YtpmnljdhjgjgfaaPrint0
import Derived.Test.YtpmnljdhjgjgfaaPrint7
namespace Go.Proofs.Ytpmnljdhjgjgfaa.Print
open Go.RowKit Go.Proofs.YtpmnljdhjgjgfaaW.PrintWords Go.Proofs.YtpmnljdhjgjgfaaW.PrintLast Go.Proofs.YtpmnljdhjgjgfaaW.PrintMore
attribute [local go_sem] max2_int min2_int max_two min_two max_three min_three max_four min_four   -- for this text's walks alone
set_option linter.unusedVariables false
set_option linter.unusedSimpArgs false

/-! ### thwartref06_Disk_without: function 46 -/
def thwartref06_Disk_without.l0 : Nat → ByteArray → List (S53) → Int → Int → List (S53) → Int → Bool → Option ((List (S53)) × Int × Int × Bool)
  | 0, _, _, _, _, _, _, _ => none
  | k + 1, x1, x5, x6, x1000, x1001, x1002, x1003 => if x6 < (x1001.length : Int) then (if 0 ≤ x6 then (if ((rd_T53 x1001 x6).f0).toList = x1.toList then (thwartref06_Disk_without.l0 k x1 x5 (wrap64 (x6 + 1)) x1000 x1001 x1002 x1003) else (if x5.length < 3518437208883 then (thwartref06_Disk_without.l0 k x1 (x5 ++ [(⟨(rd_T53 x1001 x6).f0, (rd_T53 x1001 x6).f1, (rd_T53 x1001 x6).f2⟩ : S53)]) (wrap64 (x6 + 1)) x1000 x1001 x1002 x1003) else (none))) else (none)) else (some (x5, x1000, x1002, x1003))
def thwartref06_Disk_without.f (k : Nat) (s0_0 : Int) (s0_1 : List (S53)) (s0_2 : Int) (s0_3 : Bool) (a1 : ByteArray) : Option ((List (S53)) × Int × Int × Bool) := thwartref06_Disk_without.l0 k a1 ([] : List (S53)) 0 s0_0 s0_1 s0_2 s0_3
theorem thwartref06_Disk_without.mono_l : ∀ k, (∀ y0 y1 y2 y3 y4 y5 y6, LeO (thwartref06_Disk_without.l0 k y0 y1 y2 y3 y4 y5 y6) (thwartref06_Disk_without.l0 (k + 1) y0 y1 y2 y3 y4 y5 y6))
  | 0 => fun _ _ _ _ _ _ _ r h => by simp [thwartref06_Disk_without.l0] at h
  | k + 1 => by
    have ih0 := thwartref06_Disk_without.mono_l k
    · intro y0 y1 y2 y3 y4 y5 y6
      unfold thwartref06_Disk_without.l0
      repeat' first
      | (with_reducible exact ih0 _ _ _ _ _ _ _)
      | (with_reducible exact LeO.refl _)
      | (with_reducible exact LeO.none _)
      | (with_reducible refine LeO.ite ?_ ?_)
      | (with_reducible refine LeO.bind ?_ (fun _ => ?_))
      | exact ih0 _ _ _ _ _ _ _
      | exact LeO.none _
      | refine LeO.ite ?_ ?_
      | refine LeO.bind ?_ (fun _ => ?_)
theorem thwartref06_Disk_without.mono : ∀ a0 a1 a2 a3 a4 k, LeO (thwartref06_Disk_without.f k a0 a1 a2 a3 a4) (thwartref06_Disk_without.f (k + 1) a0 a1 a2 a3 a4) := by
  intro a0 a1 a2 a3 a4 k
  have ih0 := thwartref06_Disk_without.mono_l k
  unfold thwartref06_Disk_without.f
  repeat' first
      | (with_reducible exact ih0 _ _ _ _ _ _ _)
      | (with_reducible exact LeO.refl _)
      | (with_reducible exact LeO.none _)
      | (with_reducible refine LeO.ite ?_ ?_)
      | (with_reducible refine LeO.bind ?_ (fun _ => ?_))
      | exact ih0 _ _ _ _ _ _ _
      | exact LeO.none _
      | refine LeO.ite ?_ ?_
      | refine LeO.bind ?_ (fun _ => ?_)
set_option maxHeartbeats 8000000 in
set_option maxRecDepth 100000 in
theorem thwartref06_Disk_without.calls (k : Nat) (g : Nat) (s0_0 : Int) (s0_1 : List (S53)) (s0_2 : Int) (s0_3 : Bool) (a1 : ByteArray) (r1 : List (S53)) (r2 : Int) (r3 : Int) (r4 : Bool) (w0 w : World) (hI : IsS56 w0 w g s0_0 s0_1 s0_2 s0_3) (hB : Below w0.heap.size w0 w) (h : thwartref06_Disk_without.f k s0_0 s0_1 s0_2 s0_3 a1 = some (r1, r2, r3, r4)) :
    Calls Try.prog 46 #[.pointer (some ⟨g, 0, none⟩), .string a1] w fun e w' => ∃ v0_ : Value, e = .returned (v0_) ∧ Kd.R k53 53 w' w.heap.size (fun _ => True) v0_ r1 ∧ IsS56 w0 w' g r2 s0_1 r3 r4 ∧ Below w0.heap.size w0 w' ∧ KeepBut w w' g none := by
  have hu53 := Try.underlying53
  have HI0 := Aside0.mk hI
  have HK := Aside0.mk (KeepBut.refl w g none)
  have HL := Aside0.mk hB.size
  clear hI
  have HW0 := Aside0.mk hB.size
  have HB := Aside0.mk hB
  clear hB
  have H : (thwartref06_Disk_without.l0 k a1 ([] : List (S53)) 0 s0_0 s0_1 s0_2 s0_3) = some (r1, r2, r3, r4) := h
  clear h
  have H' := Aside0.mk H
  clear H
  go_enter Try.func46, Try.ntmps46
  go_wp2
  go_loopg [5, 6] k (fun kq v5 v6 w' => ∃ (x5_1 : List (S53)) (x6_1 : Int), v6 = .int .i64 x6_1 ∧ Aside0 (thwartref06_Disk_without.l0 kq a1 x5_1 x6_1 s0_0 s0_1 s0_2 s0_3 = some (r1, r2, r3, r4)) ∧ Aside0 (kq ≤ k) ∧ Aside0 (Kd.R k53 53 w' w.heap.size (fun _ => True) v5 x5_1) ∧ Aside0 (IsS56 w0 w' g s0_0 s0_1 s0_2 s0_3) ∧ Aside0 (KeepBut w w' g none) ∧ Aside0 (Below w0.heap.size w0 w'))
  case atStart => exact ⟨(([] : List (S53))), (0), (by first | rfl | (simp; done) | (simp [*]; done)), H', ⟨Nat.le_refl _⟩, ⟨by first | exact Kd.R_nil _ _ _ _ _ | exact Kd.N_nil _ _ _ _ _ | exact Kd.V_nil _ _ _ _ _ | exact Kd.Q_nil _ _ _ _ _ | exact Kd.S_nil _ _ _ _ _⟩, ⟨by repeat (first | (with_reducible first | exact HI0.out | apply IsS56.alloc | apply IsS56.drewN | apply IsS56.drew | apply IsS56.set_0 | apply IsS56.set_2 | apply IsS56.set_3) | exact HI0.out)⟩, ⟨by repeat (first | (with_reducible first | exact HK.out | apply KeepBut.set_ | apply keep_drewN | apply keep_drew | apply keep_alloc) | exact HK.out)⟩, ⟨by repeat (first | (with_reducible first | exact HB.out | apply below_alloc | apply pw_below_drewN | apply below_drew1 | refine below_set ?_ (IsS56.ge HI0.out)) | exact HB.out)⟩⟩
  case round =>
    clear H'
    try clear p2
    obtain ⟨x5_1, x6_1, rfl, HA, HK1, HO_5, HI0, HK, HB⟩ := hrel
    cases gk with
    | zero => exact absurd HA.out (by simp [thwartref06_Disk_without.l0])
    | succ k1 =>
      have H := HA.out
      clear HA
      simp only [thwartref06_Disk_without.l0] at H
      by_cases c3 : x6_1 < (s0_1.length : Int)
      · rw [if_pos c3] at H
        have c3b0 : decide (x6_1 < (s0_1.length : Int)) = true := decide_eq_true c3
        clear c3
        by_cases c4 : 0 ≤ x6_1
        · rw [if_pos c4] at H
          have c4b0 : decide (0 ≤ x6_1) = true := decide_eq_true c4
          clear c4
          by_cases c5 : ((rd_T53 s0_1 x6_1).f0).toList = a1.toList
          · rw [if_pos c5] at H
            have c5b0 : (((rd_T53 s0_1 x6_1).f0).toList == a1.toList) = true := beq_iff_eq.mpr c5
            have c5b1 : (((rd_T53 s0_1 x6_1).f0).toList != a1.toList) = false := bne_eq_false_iff_eq.mpr c5
            clear c5
            have H' := Aside0.mk H
            clear H
            obtain ⟨ASz6_1, cSz6_1, HGz6, hgz6, HSz6_1⟩ := HI0.out
            have hcz6_0 := cellS56_0 HGz6
            have hcz6_1 := cellS56_1 HGz6
            have hcz6_2 := cellS56_2 HGz6
            have hcz6_3 := cellS56_3 HGz6
            have hfz6_0 := blk_frozen HGz6 0
            have hfz6_2 := blk_frozen HGz6 2
            have hfz6_3 := blk_frozen HGz6 3
            clear HGz6 hgz6
            have p271 : 0 ≤ (x6_1 : Int) := of_decide_eq_true (by first | (with_reducible assumption) | assumption)
            have q271 : x6_1 < (s0_1.length : Int) := of_decide_eq_true (by first | (with_reducible assumption) | assumption)
            obtain ⟨ad271, e271, hx271_0, hx271_1, hx271_2⟩ := at_T53 HSz6_1 x6_1 p271 q271
            cases e271
            replace hx271_0 := pw_cell_below HB.out hx271_0
            replace hx271_1 := pw_cell_below HB.out hx271_1
            replace hx271_2 := pw_cell_below HB.out hx271_2
            replace p271 := eq_true p271
            replace q271 := eq_true q271
            go_wp2
            go_roundg k1
            case measure => have := HK1.out; omega
            case rel => exact ⟨(x5_1), (wrap64 (x6_1 + 1)), (by first | rfl | (simp; done) | (simp [*]; done)), H', ⟨by have := HK1.out; omega⟩, ⟨by (with_reducible repeat (first | apply Kd.R_alloc | apply Kd.R_drewN | apply Kd.R_drew)); exact HO_5.out⟩, ⟨by repeat (first | (with_reducible first | exact HI0.out | apply IsS56.alloc | apply IsS56.drewN | apply IsS56.drew | apply IsS56.set_0 | apply IsS56.set_2 | apply IsS56.set_3) | exact HI0.out)⟩, ⟨by repeat (first | (with_reducible first | exact HK.out | apply KeepBut.set_ | apply keep_drewN | apply keep_drew | apply keep_alloc) | exact HK.out)⟩, ⟨by repeat (first | (with_reducible first | exact HB.out | apply below_alloc | apply pw_below_drewN | apply below_drew1 | refine below_set ?_ (IsS56.ge HI0.out)) | exact HB.out)⟩⟩
          · rw [if_neg c5] at H
            have c5b0 : (((rd_T53 s0_1 x6_1).f0).toList == a1.toList) = false := beq_eq_false_iff_ne.mpr c5
            have c5b1 : (((rd_T53 s0_1 x6_1).f0).toList != a1.toList) = true := bne_iff_ne.mpr c5
            by_cases c7 : x5_1.length < 3518437208883
            · rw [if_pos c7] at H
              have LMc7 := Aside0.mk c7
              clear c7
              obtain ⟨y273, hy273⟩ : ∃ y_ : List (S53), y_ = (x5_1 ++ [(⟨(rd_T53 s0_1 x6_1).f0, (rd_T53 s0_1 x6_1).f1, (rd_T53 s0_1 x6_1).f2⟩ : S53)]) := ⟨_, rfl⟩
              replace H : (thwartref06_Disk_without.l0 k1 a1 y273 (wrap64 (x6_1 + 1)) s0_0 s0_1 s0_2 s0_3) = some (r1, r2, r3, r4) := by first | (rw [hy273]; with_reducible exact H) | (have H2_ := (Option.bind_some _ _).symm.trans H; rw [hy273]; with_reducible exact H2_) | (have H2_ := (Option.bind_some _ _).symm.trans H; with_reducible exact H2_) | with_reducible exact H | (rw [hy273]; exact H) | exact H
              have Ny273 := Aside0.mk hy273
              clear hy273
              have H' := Aside0.mk H
              clear H
              obtain ⟨ASz8_1, cSz8_1, HGz8, hgz8, HSz8_1⟩ := HI0.out
              have hcz8_0 := cellS56_0 HGz8
              have hcz8_1 := cellS56_1 HGz8
              have hcz8_2 := cellS56_2 HGz8
              have hcz8_3 := cellS56_3 HGz8
              have hfz8_0 := blk_frozen HGz8 0
              have hfz8_2 := blk_frozen HGz8 2
              have hfz8_3 := blk_frozen HGz8 3
              clear HGz8 hgz8
              have p271 : 0 ≤ (x6_1 : Int) := of_decide_eq_true (by first | (with_reducible assumption) | assumption)
              have q271 : x6_1 < (s0_1.length : Int) := of_decide_eq_true (by first | (with_reducible assumption) | assumption)
              obtain ⟨ad271, e271, hx271_0, hx271_1, hx271_2⟩ := at_T53 HSz8_1 x6_1 p271 q271
              cases e271
              replace hx271_0 := pw_cell_below HB.out hx271_0
              replace hx271_1 := pw_cell_below HB.out hx271_1
              replace hx271_2 := pw_cell_below HB.out hx271_2
              replace p271 := eq_true p271
              replace q271 := eq_true q271
              have p272 : 0 ≤ (x6_1 : Int) := of_decide_eq_true (by first | (with_reducible assumption) | assumption)
              have q272 : x6_1 < (s0_1.length : Int) := of_decide_eq_true (by first | (with_reducible assumption) | assumption)
              obtain ⟨ad272, e272, hx272_0, hx272_1, hx272_2⟩ := at_T53 HSz8_1 x6_1 p272 q272
              obtain rfl : ad271 = ad272 := (by injection e272)
              replace hx272_0 := pw_cell_below HB.out hx272_0
              replace hx272_1 := pw_cell_below HB.out hx272_1
              replace hx272_2 := pw_cell_below HB.out hx272_2
              replace p272 := eq_true p272
              replace q272 := eq_true q272
              go_wp2_with (first | ((with_reducible refine gate_builtin (b := .append) (xs := #[.tmp 26, .tmp 34]) rfl ?_); at_builtin; refine Kd.R_append k53 w.heap.size rfl (.tmp 26) (.tmp 34) 54 53 (.agg #[(.string ⟨#[]⟩), (.string ⟨#[]⟩), (.int .i64 0)]) 40 rfl Try.underlying54 info53 rfl (by decide) (by omega) u5 x5_1 (⟨(rd_T53 s0_1 x6_1).f0, (rd_T53 s0_1 x6_1).f1, (rd_T53 s0_1 x6_1).f2⟩ : S53) [.string ((rd_T53 s0_1 x6_1).f0), .string ((rd_T53 s0_1 x6_1).f1), .int .i64 ((rd_T53 s0_1 x6_1).f2)] (fun _ => True) (fun _ => False) rfl rfl ?aP (fun _ hk => hk.elim) ?aF ?aO (Below.refl _ _) ?aS ?aL ?_; (case aP => exact k53_mkM _ _ _ (⟨(rd_T53 s0_1 x6_1).f0, (rd_T53 s0_1 x6_1).f1, (rd_T53 s0_1 x6_1).f2⟩ : S53)); (case aF => exact (fun _ _ => trivial)); (case aO => exact (by (with_reducible repeat (first | apply Kd.R_alloc | apply Kd.R_drewN | apply Kd.R_drew)); exact HO_5.out)); (case aS => exact (keep_size (w := w) (g := g) (row := none) (by repeat (first | (with_reducible first | exact HK.out | apply KeepBut.set_ | apply keep_drewN | apply keep_drew | apply keep_alloc) | exact HK.out)))); (case aL => have := LMc7.out; omega); intro v274 w9 ho hb hg hat; rw [← Ny273.out] at ho; have n0_ := Aside0.mk (IsS56.grown (by repeat (first | (with_reducible first | exact HI0.out | apply IsS56.alloc | apply IsS56.drewN | apply IsS56.drew | apply IsS56.set_0 | apply IsS56.set_2 | apply IsS56.set_3) | exact HI0.out)) hg (IsS56.own_ne HI0.out HO_5.out (by decide))); have n1_ := Aside0.mk (below_weaken (by repeat (first | (with_reducible first | exact HB.out | apply below_alloc | apply pw_below_drewN | apply below_drew1 | refine below_set ?_ (IsS56.ge HI0.out)) | exact HB.out)) HL.out hb); have n2_ := Aside0.mk (KeepBut.trans (by repeat (first | (with_reducible first | exact HK.out | apply KeepBut.set_ | apply keep_drewN | apply keep_drew | apply keep_alloc) | exact HK.out)) (KeepBut.of_grown hg g) (Kd.R_base2 HO_5.out)); have n3_ := Aside0.mk (ho); clear HI0; clear HB; clear HK; clear HO_5; have HI0 := n0_; have HB := n1_; have HK := n2_; have HO275 := n3_; clear n0_ n1_ n2_ n3_; clear ho hb hg hat))
              go_roundg k1
              case measure => have := HK1.out; omega
              case rel => exact ⟨(y273), (wrap64 (x6_1 + 1)), (by first | rfl | (simp; done) | (simp [*]; done)), H', ⟨by have := HK1.out; omega⟩, ⟨by (with_reducible repeat (first | apply Kd.R_alloc | apply Kd.R_drewN | apply Kd.R_drew)); exact HO275.out⟩, ⟨by repeat (first | (with_reducible first | exact HI0.out | apply IsS56.alloc | apply IsS56.drewN | apply IsS56.drew | apply IsS56.set_0 | apply IsS56.set_2 | apply IsS56.set_3) | exact HI0.out)⟩, ⟨by repeat (first | (with_reducible first | exact HK.out | apply KeepBut.set_ | apply keep_drewN | apply keep_drew | apply keep_alloc) | exact HK.out)⟩, ⟨by repeat (first | (with_reducible first | exact HB.out | apply below_alloc | apply pw_below_drewN | apply below_drew1 | refine below_set ?_ (IsS56.ge HI0.out)) | exact HB.out)⟩⟩
            · rw [if_neg c7] at H
              exact absurd H (by simp)
        · rw [if_neg c4] at H
          exact absurd H (by simp)
      · rw [if_neg c3] at H
        have c3b0 : decide (x6_1 < (s0_1.length : Int)) = false := decide_eq_false c3
        clear c3
        simp only [Option.some.injEq, Prod.mk.injEq] at H
        obtain ⟨rfl, rfl, rfl, rfl⟩ := H
        obtain ⟨ASz10_1, cSz10_1, HGz10, hgz10, HSz10_1⟩ := HI0.out
        have hcz10_0 := cellS56_0 HGz10
        have hcz10_1 := cellS56_1 HGz10
        have hcz10_2 := cellS56_2 HGz10
        have hcz10_3 := cellS56_3 HGz10
        have hfz10_0 := blk_frozen HGz10 0
        have hfz10_2 := blk_frozen HGz10 2
        have hfz10_3 := blk_frozen HGz10 3
        clear HGz10 hgz10
        go_wp2
        go_ret
        exact ⟨_, by first | rfl | (simp [errW_none, errW_some] <;> rfl) | (simp [*, errW_none, errW_some] <;> rfl) | (simp [errW_none, errW_some]; exact isEmpty_bne _), by (with_reducible repeat (first | apply Kd.R_alloc | apply Kd.R_drewN | apply Kd.R_drew)); exact HO_5.out, by repeat (first | (with_reducible first | exact HI0.out | apply IsS56.alloc | apply IsS56.drewN | apply IsS56.drew | apply IsS56.set_0 | apply IsS56.set_2 | apply IsS56.set_3) | exact HI0.out), by repeat (first | (with_reducible first | exact HB.out | apply below_alloc | apply pw_below_drewN | apply below_drew1 | refine below_set ?_ (IsS56.ge HI0.out)) | exact HB.out), by repeat (first | (with_reducible first | exact HK.out | apply KeepBut.set_ | apply keep_drewN | apply keep_drew | apply keep_alloc) | exact HK.out)⟩

-- NOT PRINTED: function 19 (thwartref06_Disk_Append)

-- NOT PRINTED: function 20 (thwartref06_Disk_Sync)

-- NOT PRINTED: function 21 (thwartref06_Disk_Rename)

-- NOT PRINTED: function 22 (thwartref06_Disk_Remove)

-- NOT PRINTED: function 23 (thwartref06_Disk_Cut)

-- NOT PRINTED: function 24 (disk_Disk_Fuse)

/-! ### thwartref06_Disk_Fuse: function 25 -/
def thwartref06_Disk_Fuse.f (s0_0 : Int) (s0_1 : List (S53)) (s0_2 : Int) (s0_3 : Bool) (a1 : Int) : Option (Int × Int × Bool) := some (s0_0, mx a1 (-1), s0_3)
set_option maxHeartbeats 8000000 in
set_option maxRecDepth 100000 in
theorem thwartref06_Disk_Fuse.calls (g : Nat) (s0_0 : Int) (s0_1 : List (S53)) (s0_2 : Int) (s0_3 : Bool) (a1 : Int) (r1 : Int) (r2 : Int) (r3 : Bool) (w0 w : World) (hI : IsS56 w0 w g s0_0 s0_1 s0_2 s0_3) (hB : Below w0.heap.size w0 w) (h : thwartref06_Disk_Fuse.f s0_0 s0_1 s0_2 s0_3 a1 = some (r1, r2, r3)) :
    Calls Try.prog 25 #[.pointer (some ⟨g, 0, none⟩), .int .i64 a1] w fun e w' => e = .returned (.tuple #[]) ∧ IsS56 w0 w' g r1 s0_1 r2 r3 ∧ Below w0.heap.size w0 w' ∧ KeepBut w w' g none := by
  have HI0 := Aside0.mk hI
  have HK := Aside0.mk (KeepBut.refl w g none)
  have HL := Aside0.mk hB.size
  clear hI
  have HW0 := Aside0.mk hB.size
  have HB := Aside0.mk hB
  clear hB
  have H : (some (s0_0, mx a1 (-1), s0_3)) = some (r1, r2, r3) := h
  clear h
  obtain ⟨ji3, hji3⟩ : ∃ j_ : Int, (mx a1 (-1)) = j_ := ⟨_, rfl⟩
  replace H : (some (s0_0, ji3, s0_3)) = some (r1, r2, r3) := by first | (rw [hji3] at H; exact H) | (simp only [hji3] at H ⊢; exact H)
  have hji3_ : (if a1 < (-1) then (-1) else a1) = ji3 := hji3
  simp only [Option.some.injEq, Prod.mk.injEq] at H
  obtain ⟨rfl, rfl, rfl⟩ := H
  obtain ⟨ASz4_1, cSz4_1, HGz4, hgz4, HSz4_1⟩ := HI0.out
  have hcz4_0 := cellS56_0 HGz4
  have hcz4_1 := cellS56_1 HGz4
  have hcz4_2 := cellS56_2 HGz4
  have hcz4_3 := cellS56_3 HGz4
  have hfz4_0 := blk_frozen HGz4 0
  have hfz4_2 := blk_frozen HGz4 2
  have hfz4_3 := blk_frozen HGz4 3
  clear HGz4 hgz4
  go_enter Try.func25, Try.ntmps25
  go_wp2
  first | go_end0 | ((try simp only [Exit.inBlock, Exit.then]); refine bodyPost_ret (results_none rfl _ _ _) rfl ?_)
  exact ⟨by first | rfl | (simp [errW_none, errW_some] <;> rfl) | (simp only [← hji3]; first | rfl | (simp [errW_none, errW_some] <;> rfl)) | (simp [*, errW_none, errW_some] <;> rfl) | (simp [errW_none, errW_some]; exact isEmpty_bne _), by repeat (first | (with_reducible first | exact HI0.out | apply IsS56.alloc | apply IsS56.drewN | apply IsS56.drew | apply IsS56.set_0 | apply IsS56.set_2 | apply IsS56.set_3) | exact HI0.out), by repeat (first | (with_reducible first | exact HB.out | apply below_alloc | apply pw_below_drewN | apply below_drew1 | refine below_set ?_ (IsS56.ge HI0.out)) | exact HB.out), by repeat (first | (with_reducible first | exact HK.out | apply KeepBut.set_ | apply keep_drewN | apply keep_drew | apply keep_alloc) | exact HK.out)⟩

-- NOT PRINTED: function 26 (thwartref06_Disk_Crash)

/-! ### thwartref06_Strings: function 27 -/
def thwartref06_Strings.l0 : Nat → List ByteArray → List ByteArray → Int → Option (Bool)
  | 0, _, _, _ => none
  | k + 1, x0, x1, x5 => if x5 < (x0.length : Int) then (if 0 ≤ x5 then (if x5 < (x1.length : Int) then (if (rdOf ByteArray.empty x0 x5).toList = (rdOf ByteArray.empty x1 x5).toList then (thwartref06_Strings.l0 k x0 x1 (wrap64 (x5 + 1))) else (some false)) else (none)) else (none)) else (some true)
def thwartref06_Strings.f (k : Nat) (l0 : List ByteArray) (l1 : List ByteArray) : Option (Bool) := if (l0.length : Int) = (l1.length : Int) then (thwartref06_Strings.l0 k l0 l1 0) else (some false)
theorem thwartref06_Strings.mono_l : ∀ k, (∀ y0 y1 y2, LeO (thwartref06_Strings.l0 k y0 y1 y2) (thwartref06_Strings.l0 (k + 1) y0 y1 y2))
  | 0 => fun _ _ _ r h => by simp [thwartref06_Strings.l0] at h
  | k + 1 => by
    have ih0 := thwartref06_Strings.mono_l k
    · intro y0 y1 y2
      unfold thwartref06_Strings.l0
      repeat' first
      | (with_reducible exact ih0 _ _ _)
      | (with_reducible exact LeO.refl _)
      | (with_reducible exact LeO.none _)
      | (with_reducible refine LeO.ite ?_ ?_)
      | (with_reducible refine LeO.bind ?_ (fun _ => ?_))
      | exact ih0 _ _ _
      | exact LeO.none _
      | refine LeO.ite ?_ ?_
      | refine LeO.bind ?_ (fun _ => ?_)
theorem thwartref06_Strings.mono : ∀ a0 a1 k, LeO (thwartref06_Strings.f k a0 a1) (thwartref06_Strings.f (k + 1) a0 a1) := by
  intro a0 a1 k
  have ih0 := thwartref06_Strings.mono_l k
  unfold thwartref06_Strings.f
  repeat' first
      | (with_reducible exact ih0 _ _ _)
      | (with_reducible exact LeO.refl _)
      | (with_reducible exact LeO.none _)
      | (with_reducible refine LeO.ite ?_ ?_)
      | (with_reducible refine LeO.bind ?_ (fun _ => ?_))
      | exact ih0 _ _ _
      | exact LeO.none _
      | refine LeO.ite ?_ ?_
      | refine LeO.bind ?_ (fun _ => ?_)
set_option maxHeartbeats 8000000 in
set_option maxRecDepth 100000 in
theorem thwartref06_Strings.calls (k : Nat) (A0 : Option Addr) (c0 : Nat) (l0 : List ByteArray) (A1 : Option Addr) (c1 : Nat) (l1 : List ByteArray) (r : Bool) (w : World) (hr0 : Kd.C Kd.string w A0 l0.length l0) (hc0 : l0.length ≤ c0) (hr1 : Kd.C Kd.string w A1 l1.length l1) (hc1 : l1.length ≤ c1) (h : thwartref06_Strings.f k l0 l1 = some r) :
    Calls Try.prog 27 #[.slice A0 l0.length c0, .slice A1 l1.length c1] w fun e w' => e = .returned (.bool r) ∧ Drawn0 w w' := by
  have HR0 := Aside0.mk hr0
  have HC0 := Aside0.mk hc0
  clear hr0 hc0
  have HR1 := Aside0.mk hr1
  have HC1 := Aside0.mk hc1
  clear hr1 hc1
  have H : (if (l0.length : Int) = (l1.length : Int) then (thwartref06_Strings.l0 k l0 l1 0) else (some false)) = some r := h
  clear h
  by_cases c3 : (l0.length : Int) = (l1.length : Int)
  · rw [if_pos c3] at H
    have c3b0 : ((l0.length : Int) == (l1.length : Int)) = true := beq_iff_eq.mpr c3
    have c3b1 : ((l0.length : Int) != (l1.length : Int)) = false := bne_eq_false_iff_eq.mpr c3
    have c3b2 : (l0.length == l1.length) = true := by first | simpa using c3 | (simp at c3 ⊢; omega)
    clear c3
    have H' := Aside0.mk H
    clear H
    go_enter Try.func27, Try.ntmps27
    go_wp2
    repeat (go_quiet (fail); try go_wp2)
    go_loopg [5] k (fun kq v5 w' => ∃ (x5_1 : Int), v5 = .int .i64 x5_1 ∧ Aside0 (thwartref06_Strings.l0 kq l0 l1 x5_1 = some r) ∧ Aside0 (kq ≤ k) ∧ Drawn0 w w')
    case atStart => exact ⟨(0), (by first | rfl | (simp; done) | (simp [*]; done)), H', ⟨Nat.le_refl _⟩, by repeat (first | exact Drawn0.refl _ | apply Drawn0.step)⟩
    case round =>
      clear H'
      try clear c1
      try clear c2
      try clear p2
      try clear c3
      try clear c3b0
      try clear c3b1
      try clear c3b2
      obtain ⟨x5_1, rfl, HA, HK1, ⟨m1, rfl⟩⟩ := hrel
      cases gk with
      | zero => exact absurd HA.out (by simp [thwartref06_Strings.l0])
      | succ k1 =>
        have H := HA.out
        clear HA
        simp only [thwartref06_Strings.l0] at H
        by_cases c4 : x5_1 < (l0.length : Int)
        · rw [if_pos c4] at H
          have c4b0 : decide (x5_1 < (l0.length : Int)) = true := decide_eq_true c4
          clear c4
          by_cases c5 : 0 ≤ x5_1
          · rw [if_pos c5] at H
            have c5b0 : decide (0 ≤ x5_1) = true := decide_eq_true c5
            clear c5
            by_cases c6 : x5_1 < (l1.length : Int)
            · rw [if_pos c6] at H
              have c6b0 : decide (x5_1 < (l1.length : Int)) = true := decide_eq_true c6
              clear c6
              by_cases c7 : (rdOf ByteArray.empty l0 x5_1).toList = (rdOf ByteArray.empty l1 x5_1).toList
              · rw [if_pos c7] at H
                have c7b0 : ((rdOf ByteArray.empty l0 x5_1).toList == (rdOf ByteArray.empty l1 x5_1).toList) = true := beq_iff_eq.mpr c7
                have c7b1 : ((rdOf ByteArray.empty l0 x5_1).toList != (rdOf ByteArray.empty l1 x5_1).toList) = false := bne_eq_false_iff_eq.mpr c7
                clear c7
                have H' := Aside0.mk H
                clear H
                have p379 : 0 ≤ (x5_1 : Int) := of_decide_eq_true (by first | (with_reducible assumption) | assumption)
                have q379 : x5_1 < (l0.length : Int) := of_decide_eq_true (by first | (with_reducible assumption) | assumption)
                obtain ⟨ad379, e379, hx379_0⟩ := Kd.at_string HR0.out x5_1 p379 q379
                cases e379
                replace p379 := eq_true p379
                replace q379 := eq_true q379
                have p380 : 0 ≤ (x5_1 : Int) := of_decide_eq_true (by first | (with_reducible assumption) | assumption)
                have q380 : x5_1 < (l1.length : Int) := of_decide_eq_true (by first | (with_reducible assumption) | assumption)
                obtain ⟨ad380, e380, hx380_0⟩ := Kd.at_string HR1.out x5_1 p380 q380
                cases e380
                replace p380 := eq_true p380
                replace q380 := eq_true q380
                go_wp2
                repeat (go_quiet (fail); try go_wp2)
                go_roundg k1
                case measure => have := HK1.out; omega
                case rel => exact ⟨(wrap64 (x5_1 + 1)), (by first | rfl | (simp; done) | (simp [*]; done)), H', ⟨by have := HK1.out; omega⟩, by repeat (first | exact Drawn0.refl _ | apply Drawn0.step)⟩
              · rw [if_neg c7] at H
                have c7b0 : ((rdOf ByteArray.empty l0 x5_1).toList == (rdOf ByteArray.empty l1 x5_1).toList) = false := beq_eq_false_iff_ne.mpr c7
                have c7b1 : ((rdOf ByteArray.empty l0 x5_1).toList != (rdOf ByteArray.empty l1 x5_1).toList) = true := bne_iff_ne.mpr c7
                obtain rfl := Option.some.inj H
                have p379 : 0 ≤ (x5_1 : Int) := of_decide_eq_true (by first | (with_reducible assumption) | assumption)
                have q379 : x5_1 < (l0.length : Int) := of_decide_eq_true (by first | (with_reducible assumption) | assumption)
                obtain ⟨ad379, e379, hx379_0⟩ := Kd.at_string HR0.out x5_1 p379 q379
                cases e379
                replace p379 := eq_true p379
                replace q379 := eq_true q379
                have p380 : 0 ≤ (x5_1 : Int) := of_decide_eq_true (by first | (with_reducible assumption) | assumption)
                have q380 : x5_1 < (l1.length : Int) := of_decide_eq_true (by first | (with_reducible assumption) | assumption)
                obtain ⟨ad380, e380, hx380_0⟩ := Kd.at_string HR1.out x5_1 p380 q380
                cases e380
                replace p380 := eq_true p380
                replace q380 := eq_true q380
                go_wp2
                repeat (go_quiet (fail); try go_wp2)
                go_ret
                exact ⟨by first | rfl | (simp; done) | (simp [*]; done), by repeat (first | exact Drawn0.refl _ | apply Drawn0.step)⟩
            · rw [if_neg c6] at H
              exact absurd H (by simp)
          · rw [if_neg c5] at H
            exact absurd H (by simp)
        · rw [if_neg c4] at H
          have c4b0 : decide (x5_1 < (l0.length : Int)) = false := decide_eq_false c4
          clear c4
          obtain rfl := Option.some.inj H
          go_wp2
          repeat (go_quiet (fail); try go_wp2)
          go_ret
          exact ⟨by first | rfl | (simp; done) | (simp [*]; done), by repeat (first | exact Drawn0.refl _ | apply Drawn0.step)⟩
  · rw [if_neg c3] at H
    have c3b0 : ((l0.length : Int) == (l1.length : Int)) = false := beq_eq_false_iff_ne.mpr c3
    have c3b1 : ((l0.length : Int) != (l1.length : Int)) = true := bne_iff_ne.mpr c3
    have c3b2 : (l0.length == l1.length) = false := by first | simpa using c3 | (simp at c3 ⊢; omega)
    obtain rfl := Option.some.inj H
    go_enter Try.func27, Try.ntmps27
    go_wp2
    repeat (go_quiet (fail); try go_wp2)
    go_ret
    exact ⟨by first | rfl | (simp; done) | (simp [*]; done), by repeat (first | exact Drawn0.refl _ | apply Drawn0.step)⟩

/-! ### thwartref06_Disk_List: function 28 -/
def thwartref06_Disk_List.l0 : Nat → List ByteArray → Int → Int → List (S53) → Int → Bool → Option (List ByteArray × Int × Int × Bool)
  | 0, _, _, _, _, _, _ => none
  | k + 1, x3, x4, x1000, x1001, x1002, x1003 => if x4 < (x1001.length : Int) then (if 0 ≤ x4 then (if x3.length < 8796093022208 then (thwartref06_Disk_List.l0 k (x3 ++ [(rd_T53 x1001 x4).f0]) (wrap64 (x4 + 1)) x1000 x1001 x1002 x1003) else (none)) else (none)) else (some (x3, x1000, x1002, x1003))
def thwartref06_Disk_List.f (k : Nat) (s0_0 : Int) (s0_1 : List (S53)) (s0_2 : Int) (s0_3 : Bool) : Option (List ByteArray × Int × Int × Bool) := thwartref06_Disk_List.l0 k ([] : List ByteArray) 0 s0_0 s0_1 s0_2 s0_3
theorem thwartref06_Disk_List.mono_l : ∀ k, (∀ y0 y1 y2 y3 y4 y5, LeO (thwartref06_Disk_List.l0 k y0 y1 y2 y3 y4 y5) (thwartref06_Disk_List.l0 (k + 1) y0 y1 y2 y3 y4 y5))
  | 0 => fun _ _ _ _ _ _ r h => by simp [thwartref06_Disk_List.l0] at h
  | k + 1 => by
    have ih0 := thwartref06_Disk_List.mono_l k
    · intro y0 y1 y2 y3 y4 y5
      unfold thwartref06_Disk_List.l0
      repeat' first
      | (with_reducible exact ih0 _ _ _ _ _ _)
      | (with_reducible exact LeO.refl _)
      | (with_reducible exact LeO.none _)
      | (with_reducible refine LeO.ite ?_ ?_)
      | (with_reducible refine LeO.bind ?_ (fun _ => ?_))
      | exact ih0 _ _ _ _ _ _
      | exact LeO.none _
      | refine LeO.ite ?_ ?_
      | refine LeO.bind ?_ (fun _ => ?_)
theorem thwartref06_Disk_List.mono : ∀ a0 a1 a2 a3 k, LeO (thwartref06_Disk_List.f k a0 a1 a2 a3) (thwartref06_Disk_List.f (k + 1) a0 a1 a2 a3) := by
  intro a0 a1 a2 a3 k
  have ih0 := thwartref06_Disk_List.mono_l k
  unfold thwartref06_Disk_List.f
  repeat' first
      | (with_reducible exact ih0 _ _ _ _ _ _)
      | (with_reducible exact LeO.refl _)
      | (with_reducible exact LeO.none _)
      | (with_reducible refine LeO.ite ?_ ?_)
      | (with_reducible refine LeO.bind ?_ (fun _ => ?_))
      | exact ih0 _ _ _ _ _ _
      | exact LeO.none _
      | refine LeO.ite ?_ ?_
      | refine LeO.bind ?_ (fun _ => ?_)
set_option maxHeartbeats 8000000 in
set_option maxRecDepth 100000 in
theorem thwartref06_Disk_List.calls (k : Nat) (g : Nat) (s0_0 : Int) (s0_1 : List (S53)) (s0_2 : Int) (s0_3 : Bool) (r1 : List ByteArray) (r2 : Int) (r3 : Int) (r4 : Bool) (w0 w : World) (hI : IsS56 w0 w g s0_0 s0_1 s0_2 s0_3) (hB : Below w0.heap.size w0 w) (h : thwartref06_Disk_List.f k s0_0 s0_1 s0_2 s0_3 = some (r1, r2, r3, r4)) :
    Calls Try.prog 28 #[.pointer (some ⟨g, 0, none⟩)] w fun e w' => ∃ v0_ : Value, e = .returned (v0_) ∧ Kd.R Kd.string 9 w' w.heap.size (fun _ => True) v0_ r1 ∧ IsS56 w0 w' g r2 s0_1 r3 r4 ∧ Below w0.heap.size w0 w' ∧ KeepBut w w' g none := by
  have HI0 := Aside0.mk hI
  have HK := Aside0.mk (KeepBut.refl w g none)
  have HL := Aside0.mk hB.size
  clear hI
  have HW0 := Aside0.mk hB.size
  have HB := Aside0.mk hB
  clear hB
  have H : (thwartref06_Disk_List.l0 k ([] : List ByteArray) 0 s0_0 s0_1 s0_2 s0_3) = some (r1, r2, r3, r4) := h
  clear h
  have H' := Aside0.mk H
  clear H
  go_enter Try.func28, Try.ntmps28
  go_wp2
  go_loopg [3, 4] k (fun kq v3 v4 w' => ∃ (x3_1 : List ByteArray) (x4_1 : Int), v4 = .int .i64 x4_1 ∧ Aside0 (thwartref06_Disk_List.l0 kq x3_1 x4_1 s0_0 s0_1 s0_2 s0_3 = some (r1, r2, r3, r4)) ∧ Aside0 (kq ≤ k) ∧ Aside0 (Kd.R Kd.string 9 w' w.heap.size (fun _ => True) v3 x3_1) ∧ Aside0 (IsS56 w0 w' g s0_0 s0_1 s0_2 s0_3) ∧ Aside0 (KeepBut w w' g none) ∧ Aside0 (Below w0.heap.size w0 w'))
  case atStart => exact ⟨(([] : List ByteArray)), (0), (by first | rfl | (simp; done) | (simp [*]; done)), H', ⟨Nat.le_refl _⟩, ⟨by first | exact Kd.R_nil _ _ _ _ _ | exact Kd.N_nil _ _ _ _ _ | exact Kd.V_nil _ _ _ _ _ | exact Kd.Q_nil _ _ _ _ _ | exact Kd.S_nil _ _ _ _ _⟩, ⟨by repeat (first | (with_reducible first | exact HI0.out | apply IsS56.alloc | apply IsS56.drewN | apply IsS56.drew | apply IsS56.set_0 | apply IsS56.set_2 | apply IsS56.set_3) | exact HI0.out)⟩, ⟨by repeat (first | (with_reducible first | exact HK.out | apply KeepBut.set_ | apply keep_drewN | apply keep_drew | apply keep_alloc) | exact HK.out)⟩, ⟨by repeat (first | (with_reducible first | exact HB.out | apply below_alloc | apply pw_below_drewN | apply below_drew1 | refine below_set ?_ (IsS56.ge HI0.out)) | exact HB.out)⟩⟩
  case round =>
    clear H'
    obtain ⟨x3_1, x4_1, rfl, HA, HK1, HO_3, HI0, HK, HB⟩ := hrel
    cases gk with
    | zero => exact absurd HA.out (by simp [thwartref06_Disk_List.l0])
    | succ k1 =>
      have H := HA.out
      clear HA
      simp only [thwartref06_Disk_List.l0] at H
      by_cases c2 : x4_1 < (s0_1.length : Int)
      · rw [if_pos c2] at H
        have c2b0 : decide (x4_1 < (s0_1.length : Int)) = true := decide_eq_true c2
        clear c2
        by_cases c3 : 0 ≤ x4_1
        · rw [if_pos c3] at H
          have c3b0 : decide (0 ≤ x4_1) = true := decide_eq_true c3
          clear c3
          by_cases c4 : x3_1.length < 8796093022208
          · rw [if_pos c4] at H
            have LMc4 := Aside0.mk c4
            clear c4
            obtain ⟨y382, hy382⟩ : ∃ y_ : List ByteArray, y_ = (x3_1 ++ [(rd_T53 s0_1 x4_1).f0]) := ⟨_, rfl⟩
            replace H : (thwartref06_Disk_List.l0 k1 y382 (wrap64 (x4_1 + 1)) s0_0 s0_1 s0_2 s0_3) = some (r1, r2, r3, r4) := by first | (rw [hy382]; with_reducible exact H) | (have H2_ := (Option.bind_some _ _).symm.trans H; rw [hy382]; with_reducible exact H2_) | (have H2_ := (Option.bind_some _ _).symm.trans H; with_reducible exact H2_) | with_reducible exact H | (rw [hy382]; exact H) | exact H
            have Ny382 := Aside0.mk hy382
            clear hy382
            have H' := Aside0.mk H
            clear H
            obtain ⟨ASz5_1, cSz5_1, HGz5, hgz5, HSz5_1⟩ := HI0.out
            have hcz5_0 := cellS56_0 HGz5
            have hcz5_1 := cellS56_1 HGz5
            have hcz5_2 := cellS56_2 HGz5
            have hcz5_3 := cellS56_3 HGz5
            have hfz5_0 := blk_frozen HGz5 0
            have hfz5_2 := blk_frozen HGz5 2
            have hfz5_3 := blk_frozen HGz5 3
            clear HGz5 hgz5
            have p381 : 0 ≤ (x4_1 : Int) := of_decide_eq_true (by first | (with_reducible assumption) | assumption)
            have q381 : x4_1 < (s0_1.length : Int) := of_decide_eq_true (by first | (with_reducible assumption) | assumption)
            obtain ⟨ad381, e381, hx381_0, hx381_1, hx381_2⟩ := at_T53 HSz5_1 x4_1 p381 q381
            cases e381
            replace hx381_0 := pw_cell_below HB.out hx381_0
            replace hx381_1 := pw_cell_below HB.out hx381_1
            replace hx381_2 := pw_cell_below HB.out hx381_2
            replace p381 := eq_true p381
            replace q381 := eq_true q381
            go_wp2_with (first | ((with_reducible refine gate_builtin (b := .append) (xs := #[.tmp 14, .tmp 23]) rfl ?_); at_builtin; refine Kd.R_append Kd.string w.heap.size rfl (.tmp 14) (.tmp 23) 22 9 (.string ⟨#[]⟩) 16 rfl Try.underlying22 info9 rfl (by decide) (by omega) u3 x3_1 ((rd_T53 s0_1 x4_1).f0) [.string ((rd_T53 s0_1 x4_1).f0)] (fun _ => True) (fun _ => False) rfl rfl ?aP (fun _ hk => hk.elim) ?aF ?aO (Below.refl _ _) ?aS ?aL ?_; (case aP => exact rfl); (case aF => exact (fun _ _ => trivial)); (case aO => exact (by (with_reducible repeat (first | apply Kd.R_alloc | apply Kd.R_drewN | apply Kd.R_drew)); exact HO_3.out)); (case aS => exact (keep_size (w := w) (g := g) (row := none) (by repeat (first | (with_reducible first | exact HK.out | apply KeepBut.set_ | apply keep_drewN | apply keep_drew | apply keep_alloc) | exact HK.out)))); (case aL => have := LMc4.out; omega); intro v383 w6 ho hb hg hat; rw [← Ny382.out] at ho; have n0_ := Aside0.mk (IsS56.grown (by repeat (first | (with_reducible first | exact HI0.out | apply IsS56.alloc | apply IsS56.drewN | apply IsS56.drew | apply IsS56.set_0 | apply IsS56.set_2 | apply IsS56.set_3) | exact HI0.out)) hg (IsS56.own_ne HI0.out HO_3.out (by decide))); have n1_ := Aside0.mk (below_weaken (by repeat (first | (with_reducible first | exact HB.out | apply below_alloc | apply pw_below_drewN | apply below_drew1 | refine below_set ?_ (IsS56.ge HI0.out)) | exact HB.out)) HL.out hb); have n2_ := Aside0.mk (KeepBut.trans (by repeat (first | (with_reducible first | exact HK.out | apply KeepBut.set_ | apply keep_drewN | apply keep_drew | apply keep_alloc) | exact HK.out)) (KeepBut.of_grown hg g) (Kd.R_base2 HO_3.out)); have n3_ := Aside0.mk (ho); clear HI0; clear HB; clear HK; clear HO_3; have HI0 := n0_; have HB := n1_; have HK := n2_; have HO384 := n3_; clear n0_ n1_ n2_ n3_; clear ho hb hg hat))
            go_roundg k1
            case measure => have := HK1.out; omega
            case rel => exact ⟨(y382), (wrap64 (x4_1 + 1)), (by first | rfl | (simp; done) | (simp [*]; done)), H', ⟨by have := HK1.out; omega⟩, ⟨by (with_reducible repeat (first | apply Kd.R_alloc | apply Kd.R_drewN | apply Kd.R_drew)); exact HO384.out⟩, ⟨by repeat (first | (with_reducible first | exact HI0.out | apply IsS56.alloc | apply IsS56.drewN | apply IsS56.drew | apply IsS56.set_0 | apply IsS56.set_2 | apply IsS56.set_3) | exact HI0.out)⟩, ⟨by repeat (first | (with_reducible first | exact HK.out | apply KeepBut.set_ | apply keep_drewN | apply keep_drew | apply keep_alloc) | exact HK.out)⟩, ⟨by repeat (first | (with_reducible first | exact HB.out | apply below_alloc | apply pw_below_drewN | apply below_drew1 | refine below_set ?_ (IsS56.ge HI0.out)) | exact HB.out)⟩⟩
          · rw [if_neg c4] at H
            exact absurd H (by simp)
        · rw [if_neg c3] at H
          exact absurd H (by simp)
      · rw [if_neg c2] at H
        have c2b0 : decide (x4_1 < (s0_1.length : Int)) = false := decide_eq_false c2
        clear c2
        simp only [Option.some.injEq, Prod.mk.injEq] at H
        obtain ⟨rfl, rfl, rfl, rfl⟩ := H
        obtain ⟨ASz7_1, cSz7_1, HGz7, hgz7, HSz7_1⟩ := HI0.out
        have hcz7_0 := cellS56_0 HGz7
        have hcz7_1 := cellS56_1 HGz7
        have hcz7_2 := cellS56_2 HGz7
        have hcz7_3 := cellS56_3 HGz7
        have hfz7_0 := blk_frozen HGz7 0
        have hfz7_2 := blk_frozen HGz7 2
        have hfz7_3 := blk_frozen HGz7 3
        clear HGz7 hgz7
        go_wp2
        go_ret
        exact ⟨_, by first | rfl | (simp [errW_none, errW_some] <;> rfl) | (simp [*, errW_none, errW_some] <;> rfl) | (simp [errW_none, errW_some]; exact isEmpty_bne _), by (with_reducible repeat (first | apply Kd.R_alloc | apply Kd.R_drewN | apply Kd.R_drew)); exact HO_3.out, by repeat (first | (with_reducible first | exact HI0.out | apply IsS56.alloc | apply IsS56.drewN | apply IsS56.drew | apply IsS56.set_0 | apply IsS56.set_2 | apply IsS56.set_3) | exact HI0.out), by repeat (first | (with_reducible first | exact HB.out | apply below_alloc | apply pw_below_drewN | apply below_drew1 | refine below_set ?_ (IsS56.ge HI0.out)) | exact HB.out), by repeat (first | (with_reducible first | exact HK.out | apply KeepBut.set_ | apply keep_drewN | apply keep_drew | apply keep_alloc) | exact HK.out)⟩

/-! ### thwartref06_Disk_Read: function 30 -/
def thwartref06_Disk_Read.f (k : Nat) (s0_0 : Int) (s0_1 : List (S53)) (s0_2 : Int) (s0_3 : Bool) (a1 : ByteArray) (a2 : Int) (a3 : Int) : Option (ByteArray × Int × Int × Int × Bool) := (thwartref06_Disk_at.f k s0_0 s0_1 s0_2 s0_3 a1).bind fun bt385 => (if bt385.1 < 0 then (some ((⟨#[]⟩ : ByteArray), 5, bt385.2.1, bt385.2.2.1, bt385.2.2.2)) else (if 0 ≤ bt385.1 then (if bt385.1 < (s0_1.length : Int) then (if a2 < 0 then (some ((⟨#[]⟩ : ByteArray), 1, bt385.2.1, bt385.2.2.1, bt385.2.2.2)) else (if a3 < 0 then (some ((⟨#[]⟩ : ByteArray), 1, bt385.2.1, bt385.2.2.1, bt385.2.2.2)) else (if a2 > (((rd_T53 s0_1 bt385.1).f1).size : Int) then (some ((⟨#[]⟩ : ByteArray), 1, bt385.2.1, bt385.2.2.1, bt385.2.2.2)) else (if a3 > (wrap64 ((((rd_T53 s0_1 bt385.1).f1).size : Int) - a2)) then (some ((⟨#[]⟩ : ByteArray), 1, bt385.2.1, bt385.2.2.1, bt385.2.2.2)) else (if 0 ≤ a2 then (if a2 ≤ (wrap64 (a2 + a3)) then (if (wrap64 (a2 + a3)) ≤ (((rd_T53 s0_1 bt385.1).f1).size : Int) then (some (((rd_T53 s0_1 bt385.1).f1).extract (a2 : Int).toNat ((wrap64 (a2 + a3)) : Int).toNat, 0, bt385.2.1, bt385.2.2.1, bt385.2.2.2)) else (none)) else (none)) else (none)))))) else (none)) else (none)))
theorem thwartref06_Disk_Read.mono : ∀ a0 a1 a2 a3 a4 a5 a6 k, LeO (thwartref06_Disk_Read.f k a0 a1 a2 a3 a4 a5 a6) (thwartref06_Disk_Read.f (k + 1) a0 a1 a2 a3 a4 a5 a6) := by
  intro a0 a1 a2 a3 a4 a5 a6 k
  unfold thwartref06_Disk_Read.f
  repeat' first
      | (with_reducible exact thwartref06_Disk_at.mono _ _ _ _ _ _)
      | (with_reducible exact LeO.refl _)
      | (with_reducible exact LeO.none _)
      | (with_reducible refine LeO.ite ?_ ?_)
      | (with_reducible refine LeO.bind ?_ (fun _ => ?_))
      | exact thwartref06_Disk_at.mono _ _ _ _ _ _
      | exact LeO.none _
      | refine LeO.ite ?_ ?_
      | refine LeO.bind ?_ (fun _ => ?_)
set_option maxHeartbeats 8000000 in
set_option maxRecDepth 100000 in
theorem thwartref06_Disk_Read.calls (k : Nat) (g : Nat) (s0_0 : Int) (s0_1 : List (S53)) (s0_2 : Int) (s0_3 : Bool) (a1 : ByteArray) (a2 : Int) (a3 : Int) (r1 : ByteArray) (r2 : Int) (r3 : Int) (r4 : Int) (r5 : Bool) (w0 w : World) (hI : IsS56 w0 w g s0_0 s0_1 s0_2 s0_3) (hB : Below w0.heap.size w0 w) (h : thwartref06_Disk_Read.f k s0_0 s0_1 s0_2 s0_3 a1 a2 a3 = some (r1, r2, r3, r4, r5)) :
    Calls Try.prog 30 #[.pointer (some ⟨g, 0, none⟩), .string a1, .int .i64 a2, .int .i64 a3] w fun e w' => e = .returned (.tuple #[.string r1, .int .i64 r2]) ∧ IsS56 w0 w' g r3 s0_1 r4 r5 ∧ Below w0.heap.size w0 w' ∧ KeepBut w w' g none := by
  have HI0 := Aside0.mk hI
  have HK := Aside0.mk (KeepBut.refl w g none)
  have HL := Aside0.mk hB.size
  clear hI
  have HW0 := Aside0.mk hB.size
  have HB := Aside0.mk hB
  clear hB
  have H : ((thwartref06_Disk_at.f k s0_0 s0_1 s0_2 s0_3 a1).bind fun bt385 => (if bt385.1 < 0 then (some ((⟨#[]⟩ : ByteArray), 5, bt385.2.1, bt385.2.2.1, bt385.2.2.2)) else (if 0 ≤ bt385.1 then (if bt385.1 < (s0_1.length : Int) then (if a2 < 0 then (some ((⟨#[]⟩ : ByteArray), 1, bt385.2.1, bt385.2.2.1, bt385.2.2.2)) else (if a3 < 0 then (some ((⟨#[]⟩ : ByteArray), 1, bt385.2.1, bt385.2.2.1, bt385.2.2.2)) else (if a2 > (((rd_T53 s0_1 bt385.1).f1).size : Int) then (some ((⟨#[]⟩ : ByteArray), 1, bt385.2.1, bt385.2.2.1, bt385.2.2.2)) else (if a3 > (wrap64 ((((rd_T53 s0_1 bt385.1).f1).size : Int) - a2)) then (some ((⟨#[]⟩ : ByteArray), 1, bt385.2.1, bt385.2.2.1, bt385.2.2.2)) else (if 0 ≤ a2 then (if a2 ≤ (wrap64 (a2 + a3)) then (if (wrap64 (a2 + a3)) ≤ (((rd_T53 s0_1 bt385.1).f1).size : Int) then (some (((rd_T53 s0_1 bt385.1).f1).extract (a2 : Int).toNat ((wrap64 (a2 + a3)) : Int).toNat, 0, bt385.2.1, bt385.2.2.1, bt385.2.2.2)) else (none)) else (none)) else (none)))))) else (none)) else (none)))) = some (r1, r2, r3, r4, r5) := h
  clear h
  replace H := Option.bind_eq_some_iff.mp H
  obtain ⟨⟨t385, t386, t387, t388⟩, A50, H⟩ := H
  replace H : (if t385 < 0 then (some ((⟨#[]⟩ : ByteArray), 5, t386, t387, t388)) else (if 0 ≤ t385 then (if t385 < (s0_1.length : Int) then (if a2 < 0 then (some ((⟨#[]⟩ : ByteArray), 1, t386, t387, t388)) else (if a3 < 0 then (some ((⟨#[]⟩ : ByteArray), 1, t386, t387, t388)) else (if a2 > (((rd_T53 s0_1 t385).f1).size : Int) then (some ((⟨#[]⟩ : ByteArray), 1, t386, t387, t388)) else (if a3 > (wrap64 ((((rd_T53 s0_1 t385).f1).size : Int) - a2)) then (some ((⟨#[]⟩ : ByteArray), 1, t386, t387, t388)) else (if 0 ≤ a2 then (if a2 ≤ (wrap64 (a2 + a3)) then (if (wrap64 (a2 + a3)) ≤ (((rd_T53 s0_1 t385).f1).size : Int) then (some (((rd_T53 s0_1 t385).f1).extract (a2 : Int).toNat ((wrap64 (a2 + a3)) : Int).toNat, 0, t386, t387, t388)) else (none)) else (none)) else (none)))))) else (none)) else (none))) = some (r1, r2, r3, r4, r5) := H
  have A5 := Aside0.mk A50
  clear A50
  by_cases c6 : t385 < 0
  · rw [if_pos c6] at H
    have c6b0 : decide (t385 < 0) = true := decide_eq_true c6
    clear c6
    simp only [Option.some.injEq, Prod.mk.injEq] at H
    obtain ⟨rfl, rfl, rfl, rfl, rfl⟩ := H
    go_enter Try.func30, Try.ntmps30
    go_wp2_with (first | ((with_reducible refine gate_callee (f := 44) rfl ?_); refine goesL_ (some 14) rfl rfl Try.func44 (by kernel_rfl) rfl #[.pointer (some ⟨g, 0, none⟩), .string a1] rfl (by (try simp only [List.map_toArray, List.map_cons, List.map_nil]); first | done | rfl | (simp only [List.length_drop, List.length_take]; rfl)) ?_; (with_reducible refine (thwartref06_Disk_at.calls k g s0_0 s0_1 s0_2 s0_3 a1 t385 t386 t387 t388 w0 _ ?side1 ?side2 A5.out).mono ?_); (case side1 => repeat (first | (with_reducible first | exact HI0.out | apply IsS56.alloc | apply IsS56.drewN | apply IsS56.drew | apply IsS56.set_0 | apply IsS56.set_2 | apply IsS56.set_3) | exact HI0.out)); (case side2 => repeat (first | (with_reducible first | exact HB.out | apply below_alloc | apply pw_below_drewN | apply below_drew1 | refine below_set ?_ (IsS56.ge HI0.out)) | exact HB.out)); rintro e w7 ⟨rfl, hi, hb, hk⟩; refine ⟨_, rfl, ?_⟩; have n0_ := Aside0.mk (KeepBut.trans (by repeat (first | (with_reducible first | exact HK.out | apply KeepBut.set_ | apply keep_drewN | apply keep_drew | apply keep_alloc) | exact HK.out)) hk (.inl rfl)); have n1_ := Aside0.mk (hb); have n2_ := Aside0.mk (hi); clear HK; clear HB; clear HI0; have HK := n0_; have HB := n1_; have HI0 := n2_; clear n0_ n1_ n2_; (try clear hb); (try clear hb2); (try clear hk); (try clear hi)))
    go_ret2
    exact ⟨by first | rfl | (simp [errW_none, errW_some] <;> rfl) | (simp [*, errW_none, errW_some] <;> rfl) | (simp [errW_none, errW_some]; exact isEmpty_bne _), by repeat (first | (with_reducible first | exact HI0.out | apply IsS56.alloc | apply IsS56.drewN | apply IsS56.drew | apply IsS56.set_0 | apply IsS56.set_2 | apply IsS56.set_3) | exact HI0.out), by repeat (first | (with_reducible first | exact HB.out | apply below_alloc | apply pw_below_drewN | apply below_drew1 | refine below_set ?_ (IsS56.ge HI0.out)) | exact HB.out), by repeat (first | (with_reducible first | exact HK.out | apply KeepBut.set_ | apply keep_drewN | apply keep_drew | apply keep_alloc) | exact HK.out)⟩
  · rw [if_neg c6] at H
    have c6b0 : decide (t385 < 0) = false := decide_eq_false c6
    clear c6
    by_cases c8 : 0 ≤ t385
    · rw [if_pos c8] at H
      have c8b0 : decide (0 ≤ t385) = true := decide_eq_true c8
      clear c8
      by_cases c9 : t385 < (s0_1.length : Int)
      · rw [if_pos c9] at H
        have c9b0 : decide (t385 < (s0_1.length : Int)) = true := decide_eq_true c9
        clear c9
        by_cases c10 : a2 < 0
        · rw [if_pos c10] at H
          have c10b0 : decide (a2 < 0) = true := decide_eq_true c10
          clear c10
          simp only [Option.some.injEq, Prod.mk.injEq] at H
          obtain ⟨rfl, rfl, rfl, rfl, rfl⟩ := H
          go_enter Try.func30, Try.ntmps30
          go_wp2_with (first | ((with_reducible refine gate_callee (f := 44) rfl ?_); refine goesL_ (some 14) rfl rfl Try.func44 (by kernel_rfl) rfl #[.pointer (some ⟨g, 0, none⟩), .string a1] rfl (by (try simp only [List.map_toArray, List.map_cons, List.map_nil]); first | done | rfl | (simp only [List.length_drop, List.length_take]; rfl)) ?_; (with_reducible refine (thwartref06_Disk_at.calls k g s0_0 s0_1 s0_2 s0_3 a1 t385 t386 t387 t388 w0 _ ?side1 ?side2 A5.out).mono ?_); (case side1 => repeat (first | (with_reducible first | exact HI0.out | apply IsS56.alloc | apply IsS56.drewN | apply IsS56.drew | apply IsS56.set_0 | apply IsS56.set_2 | apply IsS56.set_3) | exact HI0.out)); (case side2 => repeat (first | (with_reducible first | exact HB.out | apply below_alloc | apply pw_below_drewN | apply below_drew1 | refine below_set ?_ (IsS56.ge HI0.out)) | exact HB.out)); rintro e w11 ⟨rfl, hi, hb, hk⟩; refine ⟨_, rfl, ?_⟩; have n0_ := Aside0.mk (KeepBut.trans (by repeat (first | (with_reducible first | exact HK.out | apply KeepBut.set_ | apply keep_drewN | apply keep_drew | apply keep_alloc) | exact HK.out)) hk (.inl rfl)); have n1_ := Aside0.mk (hb); have n2_ := Aside0.mk (hi); clear HK; clear HB; clear HI0; have HK := n0_; have HB := n1_; have HI0 := n2_; clear n0_ n1_ n2_; (try clear hb); (try clear hb2); (try clear hk); (try clear hi); obtain ⟨ASz12_1, cSz12_1, HGz12, hgz12, HSz12_1⟩ := HI0.out; have hcz12_0 := cellS56_0 HGz12; have hcz12_1 := cellS56_1 HGz12; have hcz12_2 := cellS56_2 HGz12; have hcz12_3 := cellS56_3 HGz12; have hfz12_0 := blk_frozen HGz12 0; have hfz12_2 := blk_frozen HGz12 2; have hfz12_3 := blk_frozen HGz12 3; clear HGz12 hgz12; have p389 : 0 ≤ (t385 : Int) := of_decide_eq_true (by first | (with_reducible assumption) | assumption); have q389 : t385 < (s0_1.length : Int) := of_decide_eq_true (by first | (with_reducible assumption) | assumption); obtain ⟨ad389, e389, hx389_0, hx389_1, hx389_2⟩ := at_T53 HSz12_1 t385 p389 q389; cases e389; replace hx389_0 := pw_cell_below HB.out hx389_0; replace hx389_1 := pw_cell_below HB.out hx389_1; replace hx389_2 := pw_cell_below HB.out hx389_2; replace p389 := eq_true p389; replace q389 := eq_true q389))
          go_ret2
          exact ⟨by first | rfl | (simp [errW_none, errW_some] <;> rfl) | (simp [*, errW_none, errW_some] <;> rfl) | (simp [errW_none, errW_some]; exact isEmpty_bne _), by repeat (first | (with_reducible first | exact HI0.out | apply IsS56.alloc | apply IsS56.drewN | apply IsS56.drew | apply IsS56.set_0 | apply IsS56.set_2 | apply IsS56.set_3) | exact HI0.out), by repeat (first | (with_reducible first | exact HB.out | apply below_alloc | apply pw_below_drewN | apply below_drew1 | refine below_set ?_ (IsS56.ge HI0.out)) | exact HB.out), by repeat (first | (with_reducible first | exact HK.out | apply KeepBut.set_ | apply keep_drewN | apply keep_drew | apply keep_alloc) | exact HK.out)⟩
        · rw [if_neg c10] at H
          have c10b0 : decide (a2 < 0) = false := decide_eq_false c10
          clear c10
          by_cases c13 : a3 < 0
          · rw [if_pos c13] at H
            have c13b0 : decide (a3 < 0) = true := decide_eq_true c13
            clear c13
            simp only [Option.some.injEq, Prod.mk.injEq] at H
            obtain ⟨rfl, rfl, rfl, rfl, rfl⟩ := H
            go_enter Try.func30, Try.ntmps30
            go_wp2_with (first | ((with_reducible refine gate_callee (f := 44) rfl ?_); refine goesL_ (some 14) rfl rfl Try.func44 (by kernel_rfl) rfl #[.pointer (some ⟨g, 0, none⟩), .string a1] rfl (by (try simp only [List.map_toArray, List.map_cons, List.map_nil]); first | done | rfl | (simp only [List.length_drop, List.length_take]; rfl)) ?_; (with_reducible refine (thwartref06_Disk_at.calls k g s0_0 s0_1 s0_2 s0_3 a1 t385 t386 t387 t388 w0 _ ?side1 ?side2 A5.out).mono ?_); (case side1 => repeat (first | (with_reducible first | exact HI0.out | apply IsS56.alloc | apply IsS56.drewN | apply IsS56.drew | apply IsS56.set_0 | apply IsS56.set_2 | apply IsS56.set_3) | exact HI0.out)); (case side2 => repeat (first | (with_reducible first | exact HB.out | apply below_alloc | apply pw_below_drewN | apply below_drew1 | refine below_set ?_ (IsS56.ge HI0.out)) | exact HB.out)); rintro e w14 ⟨rfl, hi, hb, hk⟩; refine ⟨_, rfl, ?_⟩; have n0_ := Aside0.mk (KeepBut.trans (by repeat (first | (with_reducible first | exact HK.out | apply KeepBut.set_ | apply keep_drewN | apply keep_drew | apply keep_alloc) | exact HK.out)) hk (.inl rfl)); have n1_ := Aside0.mk (hb); have n2_ := Aside0.mk (hi); clear HK; clear HB; clear HI0; have HK := n0_; have HB := n1_; have HI0 := n2_; clear n0_ n1_ n2_; (try clear hb); (try clear hb2); (try clear hk); (try clear hi); obtain ⟨ASz15_1, cSz15_1, HGz15, hgz15, HSz15_1⟩ := HI0.out; have hcz15_0 := cellS56_0 HGz15; have hcz15_1 := cellS56_1 HGz15; have hcz15_2 := cellS56_2 HGz15; have hcz15_3 := cellS56_3 HGz15; have hfz15_0 := blk_frozen HGz15 0; have hfz15_2 := blk_frozen HGz15 2; have hfz15_3 := blk_frozen HGz15 3; clear HGz15 hgz15; have p389 : 0 ≤ (t385 : Int) := of_decide_eq_true (by first | (with_reducible assumption) | assumption); have q389 : t385 < (s0_1.length : Int) := of_decide_eq_true (by first | (with_reducible assumption) | assumption); obtain ⟨ad389, e389, hx389_0, hx389_1, hx389_2⟩ := at_T53 HSz15_1 t385 p389 q389; cases e389; replace hx389_0 := pw_cell_below HB.out hx389_0; replace hx389_1 := pw_cell_below HB.out hx389_1; replace hx389_2 := pw_cell_below HB.out hx389_2; replace p389 := eq_true p389; replace q389 := eq_true q389))
            go_ret2
            exact ⟨by first | rfl | (simp [errW_none, errW_some] <;> rfl) | (simp [*, errW_none, errW_some] <;> rfl) | (simp [errW_none, errW_some]; exact isEmpty_bne _), by repeat (first | (with_reducible first | exact HI0.out | apply IsS56.alloc | apply IsS56.drewN | apply IsS56.drew | apply IsS56.set_0 | apply IsS56.set_2 | apply IsS56.set_3) | exact HI0.out), by repeat (first | (with_reducible first | exact HB.out | apply below_alloc | apply pw_below_drewN | apply below_drew1 | refine below_set ?_ (IsS56.ge HI0.out)) | exact HB.out), by repeat (first | (with_reducible first | exact HK.out | apply KeepBut.set_ | apply keep_drewN | apply keep_drew | apply keep_alloc) | exact HK.out)⟩
          · rw [if_neg c13] at H
            have c13b0 : decide (a3 < 0) = false := decide_eq_false c13
            clear c13
            by_cases c16 : a2 > (((rd_T53 s0_1 t385).f1).size : Int)
            · rw [if_pos c16] at H
              have c16b0 : decide ((((rd_T53 s0_1 t385).f1).size : Int) < a2) = true := decide_eq_true c16
              clear c16
              simp only [Option.some.injEq, Prod.mk.injEq] at H
              obtain ⟨rfl, rfl, rfl, rfl, rfl⟩ := H
              go_enter Try.func30, Try.ntmps30
              go_wp2_with (first | ((with_reducible refine gate_callee (f := 44) rfl ?_); refine goesL_ (some 14) rfl rfl Try.func44 (by kernel_rfl) rfl #[.pointer (some ⟨g, 0, none⟩), .string a1] rfl (by (try simp only [List.map_toArray, List.map_cons, List.map_nil]); first | done | rfl | (simp only [List.length_drop, List.length_take]; rfl)) ?_; (with_reducible refine (thwartref06_Disk_at.calls k g s0_0 s0_1 s0_2 s0_3 a1 t385 t386 t387 t388 w0 _ ?side1 ?side2 A5.out).mono ?_); (case side1 => repeat (first | (with_reducible first | exact HI0.out | apply IsS56.alloc | apply IsS56.drewN | apply IsS56.drew | apply IsS56.set_0 | apply IsS56.set_2 | apply IsS56.set_3) | exact HI0.out)); (case side2 => repeat (first | (with_reducible first | exact HB.out | apply below_alloc | apply pw_below_drewN | apply below_drew1 | refine below_set ?_ (IsS56.ge HI0.out)) | exact HB.out)); rintro e w17 ⟨rfl, hi, hb, hk⟩; refine ⟨_, rfl, ?_⟩; have n0_ := Aside0.mk (KeepBut.trans (by repeat (first | (with_reducible first | exact HK.out | apply KeepBut.set_ | apply keep_drewN | apply keep_drew | apply keep_alloc) | exact HK.out)) hk (.inl rfl)); have n1_ := Aside0.mk (hb); have n2_ := Aside0.mk (hi); clear HK; clear HB; clear HI0; have HK := n0_; have HB := n1_; have HI0 := n2_; clear n0_ n1_ n2_; (try clear hb); (try clear hb2); (try clear hk); (try clear hi); obtain ⟨ASz18_1, cSz18_1, HGz18, hgz18, HSz18_1⟩ := HI0.out; have hcz18_0 := cellS56_0 HGz18; have hcz18_1 := cellS56_1 HGz18; have hcz18_2 := cellS56_2 HGz18; have hcz18_3 := cellS56_3 HGz18; have hfz18_0 := blk_frozen HGz18 0; have hfz18_2 := blk_frozen HGz18 2; have hfz18_3 := blk_frozen HGz18 3; clear HGz18 hgz18; have p389 : 0 ≤ (t385 : Int) := of_decide_eq_true (by first | (with_reducible assumption) | assumption); have q389 : t385 < (s0_1.length : Int) := of_decide_eq_true (by first | (with_reducible assumption) | assumption); obtain ⟨ad389, e389, hx389_0, hx389_1, hx389_2⟩ := at_T53 HSz18_1 t385 p389 q389; cases e389; replace hx389_0 := pw_cell_below HB.out hx389_0; replace hx389_1 := pw_cell_below HB.out hx389_1; replace hx389_2 := pw_cell_below HB.out hx389_2; replace p389 := eq_true p389; replace q389 := eq_true q389))
              go_ret2
              exact ⟨by first | rfl | (simp [errW_none, errW_some] <;> rfl) | (simp [*, errW_none, errW_some] <;> rfl) | (simp [errW_none, errW_some]; exact isEmpty_bne _), by repeat (first | (with_reducible first | exact HI0.out | apply IsS56.alloc | apply IsS56.drewN | apply IsS56.drew | apply IsS56.set_0 | apply IsS56.set_2 | apply IsS56.set_3) | exact HI0.out), by repeat (first | (with_reducible first | exact HB.out | apply below_alloc | apply pw_below_drewN | apply below_drew1 | refine below_set ?_ (IsS56.ge HI0.out)) | exact HB.out), by repeat (first | (with_reducible first | exact HK.out | apply KeepBut.set_ | apply keep_drewN | apply keep_drew | apply keep_alloc) | exact HK.out)⟩
            · rw [if_neg c16] at H
              have c16b0 : decide ((((rd_T53 s0_1 t385).f1).size : Int) < a2) = false := decide_eq_false c16
              clear c16
              by_cases c19 : a3 > (wrap64 ((((rd_T53 s0_1 t385).f1).size : Int) - a2))
              · rw [if_pos c19] at H
                have c19b0 : decide ((wrap64 ((((rd_T53 s0_1 t385).f1).size : Int) - a2)) < a3) = true := decide_eq_true c19
                clear c19
                simp only [Option.some.injEq, Prod.mk.injEq] at H
                obtain ⟨rfl, rfl, rfl, rfl, rfl⟩ := H
                go_enter Try.func30, Try.ntmps30
                go_wp2_with (first | ((with_reducible refine gate_callee (f := 44) rfl ?_); refine goesL_ (some 14) rfl rfl Try.func44 (by kernel_rfl) rfl #[.pointer (some ⟨g, 0, none⟩), .string a1] rfl (by (try simp only [List.map_toArray, List.map_cons, List.map_nil]); first | done | rfl | (simp only [List.length_drop, List.length_take]; rfl)) ?_; (with_reducible refine (thwartref06_Disk_at.calls k g s0_0 s0_1 s0_2 s0_3 a1 t385 t386 t387 t388 w0 _ ?side1 ?side2 A5.out).mono ?_); (case side1 => repeat (first | (with_reducible first | exact HI0.out | apply IsS56.alloc | apply IsS56.drewN | apply IsS56.drew | apply IsS56.set_0 | apply IsS56.set_2 | apply IsS56.set_3) | exact HI0.out)); (case side2 => repeat (first | (with_reducible first | exact HB.out | apply below_alloc | apply pw_below_drewN | apply below_drew1 | refine below_set ?_ (IsS56.ge HI0.out)) | exact HB.out)); rintro e w20 ⟨rfl, hi, hb, hk⟩; refine ⟨_, rfl, ?_⟩; have n0_ := Aside0.mk (KeepBut.trans (by repeat (first | (with_reducible first | exact HK.out | apply KeepBut.set_ | apply keep_drewN | apply keep_drew | apply keep_alloc) | exact HK.out)) hk (.inl rfl)); have n1_ := Aside0.mk (hb); have n2_ := Aside0.mk (hi); clear HK; clear HB; clear HI0; have HK := n0_; have HB := n1_; have HI0 := n2_; clear n0_ n1_ n2_; (try clear hb); (try clear hb2); (try clear hk); (try clear hi); obtain ⟨ASz21_1, cSz21_1, HGz21, hgz21, HSz21_1⟩ := HI0.out; have hcz21_0 := cellS56_0 HGz21; have hcz21_1 := cellS56_1 HGz21; have hcz21_2 := cellS56_2 HGz21; have hcz21_3 := cellS56_3 HGz21; have hfz21_0 := blk_frozen HGz21 0; have hfz21_2 := blk_frozen HGz21 2; have hfz21_3 := blk_frozen HGz21 3; clear HGz21 hgz21; have p389 : 0 ≤ (t385 : Int) := of_decide_eq_true (by first | (with_reducible assumption) | assumption); have q389 : t385 < (s0_1.length : Int) := of_decide_eq_true (by first | (with_reducible assumption) | assumption); obtain ⟨ad389, e389, hx389_0, hx389_1, hx389_2⟩ := at_T53 HSz21_1 t385 p389 q389; cases e389; replace hx389_0 := pw_cell_below HB.out hx389_0; replace hx389_1 := pw_cell_below HB.out hx389_1; replace hx389_2 := pw_cell_below HB.out hx389_2; replace p389 := eq_true p389; replace q389 := eq_true q389))
                go_ret2
                exact ⟨by first | rfl | (simp [errW_none, errW_some] <;> rfl) | (simp [*, errW_none, errW_some] <;> rfl) | (simp [errW_none, errW_some]; exact isEmpty_bne _), by repeat (first | (with_reducible first | exact HI0.out | apply IsS56.alloc | apply IsS56.drewN | apply IsS56.drew | apply IsS56.set_0 | apply IsS56.set_2 | apply IsS56.set_3) | exact HI0.out), by repeat (first | (with_reducible first | exact HB.out | apply below_alloc | apply pw_below_drewN | apply below_drew1 | refine below_set ?_ (IsS56.ge HI0.out)) | exact HB.out), by repeat (first | (with_reducible first | exact HK.out | apply KeepBut.set_ | apply keep_drewN | apply keep_drew | apply keep_alloc) | exact HK.out)⟩
              · rw [if_neg c19] at H
                have c19b0 : decide ((wrap64 ((((rd_T53 s0_1 t385).f1).size : Int) - a2)) < a3) = false := decide_eq_false c19
                clear c19
                by_cases c22 : 0 ≤ a2
                · rw [if_pos c22] at H
                  have c22b0 := eq_true c22
                  have c22b1 : decide (0 ≤ a2) = true := decide_eq_true c22
                  clear c22
                  by_cases c23 : a2 ≤ (wrap64 (a2 + a3))
                  · rw [if_pos c23] at H
                    have c23b0 := eq_true c23
                    have c23b1 : decide (a2 ≤ (wrap64 (a2 + a3))) = true := decide_eq_true c23
                    by_cases c24 : (wrap64 (a2 + a3)) ≤ (((rd_T53 s0_1 t385).f1).size : Int)
                    · rw [if_pos c24] at H
                      have c24b0 := eq_true c24
                      have c24b1 : decide ((wrap64 (a2 + a3)) ≤ (((rd_T53 s0_1 t385).f1).size : Int)) = true := decide_eq_true c24
                      simp only [Option.some.injEq, Prod.mk.injEq] at H
                      obtain ⟨rfl, rfl, rfl, rfl, rfl⟩ := H
                      go_enter Try.func30, Try.ntmps30
                      go_wp2_with (first | ((with_reducible refine gate_callee (f := 44) rfl ?_); refine goesL_ (some 14) rfl rfl Try.func44 (by kernel_rfl) rfl #[.pointer (some ⟨g, 0, none⟩), .string a1] rfl (by (try simp only [List.map_toArray, List.map_cons, List.map_nil]); first | done | rfl | (simp only [List.length_drop, List.length_take]; rfl)) ?_; (with_reducible refine (thwartref06_Disk_at.calls k g s0_0 s0_1 s0_2 s0_3 a1 t385 t386 t387 t388 w0 _ ?side1 ?side2 A5.out).mono ?_); (case side1 => repeat (first | (with_reducible first | exact HI0.out | apply IsS56.alloc | apply IsS56.drewN | apply IsS56.drew | apply IsS56.set_0 | apply IsS56.set_2 | apply IsS56.set_3) | exact HI0.out)); (case side2 => repeat (first | (with_reducible first | exact HB.out | apply below_alloc | apply pw_below_drewN | apply below_drew1 | refine below_set ?_ (IsS56.ge HI0.out)) | exact HB.out)); rintro e w25 ⟨rfl, hi, hb, hk⟩; refine ⟨_, rfl, ?_⟩; have n0_ := Aside0.mk (KeepBut.trans (by repeat (first | (with_reducible first | exact HK.out | apply KeepBut.set_ | apply keep_drewN | apply keep_drew | apply keep_alloc) | exact HK.out)) hk (.inl rfl)); have n1_ := Aside0.mk (hb); have n2_ := Aside0.mk (hi); clear HK; clear HB; clear HI0; have HK := n0_; have HB := n1_; have HI0 := n2_; clear n0_ n1_ n2_; (try clear hb); (try clear hb2); (try clear hk); (try clear hi); obtain ⟨ASz26_1, cSz26_1, HGz26, hgz26, HSz26_1⟩ := HI0.out; have hcz26_0 := cellS56_0 HGz26; have hcz26_1 := cellS56_1 HGz26; have hcz26_2 := cellS56_2 HGz26; have hcz26_3 := cellS56_3 HGz26; have hfz26_0 := blk_frozen HGz26 0; have hfz26_2 := blk_frozen HGz26 2; have hfz26_3 := blk_frozen HGz26 3; clear HGz26 hgz26; have p389 : 0 ≤ (t385 : Int) := of_decide_eq_true (by first | (with_reducible assumption) | assumption); have q389 : t385 < (s0_1.length : Int) := of_decide_eq_true (by first | (with_reducible assumption) | assumption); obtain ⟨ad389, e389, hx389_0, hx389_1, hx389_2⟩ := at_T53 HSz26_1 t385 p389 q389; cases e389; replace hx389_0 := pw_cell_below HB.out hx389_0; replace hx389_1 := pw_cell_below HB.out hx389_1; replace hx389_2 := pw_cell_below HB.out hx389_2; replace p389 := eq_true p389; replace q389 := eq_true q389))
                      go_ret2
                      exact ⟨by first | rfl | (simp [errW_none, errW_some] <;> rfl) | (simp [*, errW_none, errW_some] <;> rfl) | (simp [errW_none, errW_some]; exact isEmpty_bne _), by repeat (first | (with_reducible first | exact HI0.out | apply IsS56.alloc | apply IsS56.drewN | apply IsS56.drew | apply IsS56.set_0 | apply IsS56.set_2 | apply IsS56.set_3) | exact HI0.out), by repeat (first | (with_reducible first | exact HB.out | apply below_alloc | apply pw_below_drewN | apply below_drew1 | refine below_set ?_ (IsS56.ge HI0.out)) | exact HB.out), by repeat (first | (with_reducible first | exact HK.out | apply KeepBut.set_ | apply keep_drewN | apply keep_drew | apply keep_alloc) | exact HK.out)⟩
                    · rw [if_neg c24] at H
                      exact absurd H (by simp)
                  · rw [if_neg c23] at H
                    exact absurd H (by simp)
                · rw [if_neg c22] at H
                  exact absurd H (by simp)
      · rw [if_neg c9] at H
        exact absurd H (by simp)
    · rw [if_neg c8] at H
      exact absurd H (by simp)

/-! ### thwartref06_Disk_Size: function 32 -/
def thwartref06_Disk_Size.f (k : Nat) (s0_0 : Int) (s0_1 : List (S53)) (s0_2 : Int) (s0_3 : Bool) (a1 : ByteArray) : Option (Int × Int × Int × Int × Bool) := (thwartref06_Disk_at.f k s0_0 s0_1 s0_2 s0_3 a1).bind fun bt390 => (if bt390.1 < 0 then (some (0, 5, bt390.2.1, bt390.2.2.1, bt390.2.2.2)) else (if 0 ≤ bt390.1 then (if bt390.1 < (s0_1.length : Int) then (some ((((rd_T53 s0_1 bt390.1).f1).size : Int), 0, bt390.2.1, bt390.2.2.1, bt390.2.2.2)) else (none)) else (none)))
theorem thwartref06_Disk_Size.mono : ∀ a0 a1 a2 a3 a4 k, LeO (thwartref06_Disk_Size.f k a0 a1 a2 a3 a4) (thwartref06_Disk_Size.f (k + 1) a0 a1 a2 a3 a4) := by
  intro a0 a1 a2 a3 a4 k
  unfold thwartref06_Disk_Size.f
  repeat' first
      | (with_reducible exact thwartref06_Disk_at.mono _ _ _ _ _ _)
      | (with_reducible exact LeO.refl _)
      | (with_reducible exact LeO.none _)
      | (with_reducible refine LeO.ite ?_ ?_)
      | (with_reducible refine LeO.bind ?_ (fun _ => ?_))
      | exact thwartref06_Disk_at.mono _ _ _ _ _ _
      | exact LeO.none _
      | refine LeO.ite ?_ ?_
      | refine LeO.bind ?_ (fun _ => ?_)
set_option maxHeartbeats 8000000 in
set_option maxRecDepth 100000 in
theorem thwartref06_Disk_Size.calls (k : Nat) (g : Nat) (s0_0 : Int) (s0_1 : List (S53)) (s0_2 : Int) (s0_3 : Bool) (a1 : ByteArray) (r1 : Int) (r2 : Int) (r3 : Int) (r4 : Int) (r5 : Bool) (w0 w : World) (hI : IsS56 w0 w g s0_0 s0_1 s0_2 s0_3) (hB : Below w0.heap.size w0 w) (h : thwartref06_Disk_Size.f k s0_0 s0_1 s0_2 s0_3 a1 = some (r1, r2, r3, r4, r5)) :
    Calls Try.prog 32 #[.pointer (some ⟨g, 0, none⟩), .string a1] w fun e w' => e = .returned (.tuple #[.int .i64 r1, .int .i64 r2]) ∧ IsS56 w0 w' g r3 s0_1 r4 r5 ∧ Below w0.heap.size w0 w' ∧ KeepBut w w' g none := by
  have HI0 := Aside0.mk hI
  have HK := Aside0.mk (KeepBut.refl w g none)
  have HL := Aside0.mk hB.size
  clear hI
  have HW0 := Aside0.mk hB.size
  have HB := Aside0.mk hB
  clear hB
  have H : ((thwartref06_Disk_at.f k s0_0 s0_1 s0_2 s0_3 a1).bind fun bt390 => (if bt390.1 < 0 then (some (0, 5, bt390.2.1, bt390.2.2.1, bt390.2.2.2)) else (if 0 ≤ bt390.1 then (if bt390.1 < (s0_1.length : Int) then (some ((((rd_T53 s0_1 bt390.1).f1).size : Int), 0, bt390.2.1, bt390.2.2.1, bt390.2.2.2)) else (none)) else (none)))) = some (r1, r2, r3, r4, r5) := h
  clear h
  replace H := Option.bind_eq_some_iff.mp H
  obtain ⟨⟨t390, t391, t392, t393⟩, A30, H⟩ := H
  replace H : (if t390 < 0 then (some (0, 5, t391, t392, t393)) else (if 0 ≤ t390 then (if t390 < (s0_1.length : Int) then (some ((((rd_T53 s0_1 t390).f1).size : Int), 0, t391, t392, t393)) else (none)) else (none))) = some (r1, r2, r3, r4, r5) := H
  have A3 := Aside0.mk A30
  clear A30
  by_cases c4 : t390 < 0
  · rw [if_pos c4] at H
    have c4b0 : decide (t390 < 0) = true := decide_eq_true c4
    clear c4
    simp only [Option.some.injEq, Prod.mk.injEq] at H
    obtain ⟨rfl, rfl, rfl, rfl, rfl⟩ := H
    go_enter Try.func32, Try.ntmps32
    go_wp2_with (first | ((with_reducible refine gate_callee (f := 44) rfl ?_); refine goesL_ (some 9) rfl rfl Try.func44 (by kernel_rfl) rfl #[.pointer (some ⟨g, 0, none⟩), .string a1] rfl (by (try simp only [List.map_toArray, List.map_cons, List.map_nil]); first | done | rfl | (simp only [List.length_drop, List.length_take]; rfl)) ?_; (with_reducible refine (thwartref06_Disk_at.calls k g s0_0 s0_1 s0_2 s0_3 a1 t390 t391 t392 t393 w0 _ ?side1 ?side2 A3.out).mono ?_); (case side1 => repeat (first | (with_reducible first | exact HI0.out | apply IsS56.alloc | apply IsS56.drewN | apply IsS56.drew | apply IsS56.set_0 | apply IsS56.set_2 | apply IsS56.set_3) | exact HI0.out)); (case side2 => repeat (first | (with_reducible first | exact HB.out | apply below_alloc | apply pw_below_drewN | apply below_drew1 | refine below_set ?_ (IsS56.ge HI0.out)) | exact HB.out)); rintro e w5 ⟨rfl, hi, hb, hk⟩; refine ⟨_, rfl, ?_⟩; have n0_ := Aside0.mk (KeepBut.trans (by repeat (first | (with_reducible first | exact HK.out | apply KeepBut.set_ | apply keep_drewN | apply keep_drew | apply keep_alloc) | exact HK.out)) hk (.inl rfl)); have n1_ := Aside0.mk (hb); have n2_ := Aside0.mk (hi); clear HK; clear HB; clear HI0; have HK := n0_; have HB := n1_; have HI0 := n2_; clear n0_ n1_ n2_; (try clear hb); (try clear hb2); (try clear hk); (try clear hi)))
    go_ret2
    exact ⟨by first | rfl | (simp [errW_none, errW_some] <;> rfl) | (simp [*, errW_none, errW_some] <;> rfl) | (simp [errW_none, errW_some]; exact isEmpty_bne _), by repeat (first | (with_reducible first | exact HI0.out | apply IsS56.alloc | apply IsS56.drewN | apply IsS56.drew | apply IsS56.set_0 | apply IsS56.set_2 | apply IsS56.set_3) | exact HI0.out), by repeat (first | (with_reducible first | exact HB.out | apply below_alloc | apply pw_below_drewN | apply below_drew1 | refine below_set ?_ (IsS56.ge HI0.out)) | exact HB.out), by repeat (first | (with_reducible first | exact HK.out | apply KeepBut.set_ | apply keep_drewN | apply keep_drew | apply keep_alloc) | exact HK.out)⟩
  · rw [if_neg c4] at H
    have c4b0 : decide (t390 < 0) = false := decide_eq_false c4
    clear c4
    by_cases c6 : 0 ≤ t390
    · rw [if_pos c6] at H
      have c6b0 : decide (0 ≤ t390) = true := decide_eq_true c6
      clear c6
      by_cases c7 : t390 < (s0_1.length : Int)
      · rw [if_pos c7] at H
        have c7b0 : decide (t390 < (s0_1.length : Int)) = true := decide_eq_true c7
        clear c7
        simp only [Option.some.injEq, Prod.mk.injEq] at H
        obtain ⟨rfl, rfl, rfl, rfl, rfl⟩ := H
        go_enter Try.func32, Try.ntmps32
        go_wp2_with (first | ((with_reducible refine gate_callee (f := 44) rfl ?_); refine goesL_ (some 9) rfl rfl Try.func44 (by kernel_rfl) rfl #[.pointer (some ⟨g, 0, none⟩), .string a1] rfl (by (try simp only [List.map_toArray, List.map_cons, List.map_nil]); first | done | rfl | (simp only [List.length_drop, List.length_take]; rfl)) ?_; (with_reducible refine (thwartref06_Disk_at.calls k g s0_0 s0_1 s0_2 s0_3 a1 t390 t391 t392 t393 w0 _ ?side1 ?side2 A3.out).mono ?_); (case side1 => repeat (first | (with_reducible first | exact HI0.out | apply IsS56.alloc | apply IsS56.drewN | apply IsS56.drew | apply IsS56.set_0 | apply IsS56.set_2 | apply IsS56.set_3) | exact HI0.out)); (case side2 => repeat (first | (with_reducible first | exact HB.out | apply below_alloc | apply pw_below_drewN | apply below_drew1 | refine below_set ?_ (IsS56.ge HI0.out)) | exact HB.out)); rintro e w8 ⟨rfl, hi, hb, hk⟩; refine ⟨_, rfl, ?_⟩; have n0_ := Aside0.mk (KeepBut.trans (by repeat (first | (with_reducible first | exact HK.out | apply KeepBut.set_ | apply keep_drewN | apply keep_drew | apply keep_alloc) | exact HK.out)) hk (.inl rfl)); have n1_ := Aside0.mk (hb); have n2_ := Aside0.mk (hi); clear HK; clear HB; clear HI0; have HK := n0_; have HB := n1_; have HI0 := n2_; clear n0_ n1_ n2_; (try clear hb); (try clear hb2); (try clear hk); (try clear hi); obtain ⟨ASz9_1, cSz9_1, HGz9, hgz9, HSz9_1⟩ := HI0.out; have hcz9_0 := cellS56_0 HGz9; have hcz9_1 := cellS56_1 HGz9; have hcz9_2 := cellS56_2 HGz9; have hcz9_3 := cellS56_3 HGz9; have hfz9_0 := blk_frozen HGz9 0; have hfz9_2 := blk_frozen HGz9 2; have hfz9_3 := blk_frozen HGz9 3; clear HGz9 hgz9; have p394 : 0 ≤ (t390 : Int) := of_decide_eq_true (by first | (with_reducible assumption) | assumption); have q394 : t390 < (s0_1.length : Int) := of_decide_eq_true (by first | (with_reducible assumption) | assumption); obtain ⟨ad394, e394, hx394_0, hx394_1, hx394_2⟩ := at_T53 HSz9_1 t390 p394 q394; cases e394; replace hx394_0 := pw_cell_below HB.out hx394_0; replace hx394_1 := pw_cell_below HB.out hx394_1; replace hx394_2 := pw_cell_below HB.out hx394_2; replace p394 := eq_true p394; replace q394 := eq_true q394))
        go_ret2
        exact ⟨by first | rfl | (simp [errW_none, errW_some] <;> rfl) | (simp [*, errW_none, errW_some] <;> rfl) | (simp [errW_none, errW_some]; exact isEmpty_bne _), by repeat (first | (with_reducible first | exact HI0.out | apply IsS56.alloc | apply IsS56.drewN | apply IsS56.drew | apply IsS56.set_0 | apply IsS56.set_2 | apply IsS56.set_3) | exact HI0.out), by repeat (first | (with_reducible first | exact HB.out | apply below_alloc | apply pw_below_drewN | apply below_drew1 | refine below_set ?_ (IsS56.ge HI0.out)) | exact HB.out), by repeat (first | (with_reducible first | exact HK.out | apply KeepBut.set_ | apply keep_drewN | apply keep_drew | apply keep_alloc) | exact HK.out)⟩
      · rw [if_neg c7] at H
        exact absurd H (by simp)
    · rw [if_neg c6] at H
      exact absurd H (by simp)

/-! ### thwartlaw06_DiskPlays: function 5 -/
def thwartlaw06_DiskPlays.ok (o : S37) : Prop := o.f1 ≤ 9223372036854775807 ∧ o.f2.size ≤ 9223372036854775807 ∧ o.f3.size ≤ 9223372036854775807 ∧ o.f4.size ≤ 9223372036854775807
instance (o : S37) : Decidable (thwartlaw06_DiskPlays.ok o) := by unfold thwartlaw06_DiskPlays.ok; infer_instance
def thwartlaw06_DiskPlays.f (a0 : Int) (a1 : List S37) (a2 a3 : Int) : Option Bool := if (∀ o ∈ a1, thwartlaw06_DiskPlays.ok o) then some true else none
theorem thwartlaw06_DiskPlays.calls (a0 : Int) (A1 : Option Addr) (c1 : Nat) (l1 : List S37) (a2 a3 : Int) (r : Bool) (w : World) (hr1 : k37.C w A1 l1.length l1) (hc1 : l1.length ≤ c1) (h : thwartlaw06_DiskPlays.f a0 l1 a2 a3 = some r) :
    Calls Try.prog 5 #[.int .i64 a0, .slice A1 l1.length c1, .agg #[.int .i64 a2, .int .i64 a3]] w fun e w' => e = .returned (.bool r) ∧ Below w.heap.size w w' := by
  unfold thwartlaw06_DiskPlays.f at h
  split at h
  · rename_i hok
    cases h
    refine Thw.plays_walk a0 a2 a3 A1 l1.length c1 (fun i => let o := rd_T37 l1 (i : Int); ⟨⟨o.f0, o.f1, o.f2, o.f3, o.f4⟩, o.f5⟩) w (fun i hi => ?_) (fun i hi => ?_) hc1
    · obtain ⟨ad, A5, c5, e, h0, h1, h2, h3, h4, h5, h6⟩ := at_T37 hr1 (i : Int) (by omega) (by omega)
      exact ⟨ad, A5, c5, e, h0, h1, h2, h3, h4, h5, h6⟩
    · have e : rd_T37 l1 (i : Int) = l1[i] := by simp [rd_T37, List.getD_eq_getElem?_getD, hi]
      have := hok _ (List.getElem_mem hi)
      rw [← e] at this
      exact this
  · cases h

/-- THE ONE PURE STATEMENT of thwartlaw06_DiskPlays: yours. -/
def thwartlaw06_DiskPlays.Pure : Prop := ∀ (a0 : Int) (l1 : List (S37)) (a2_0 : Int) (a2_1 : Int), (Lit.int .i64 a0).wf = true → l1.length * 88 ≤ 140737488351232 → (l1.length ≤ 9223372036854775807 ∧ ∀ e395 ∈ l1, ((Lit.int .i64 e395.f0).wf = true ∧ (Lit.int .i64 e395.f1).wf = true ∧ e395.f2.size ≤ 9223372036854775807 ∧ e395.f3.size ≤ 9223372036854775807 ∧ e395.f4.size ≤ 9223372036854775807 ∧ (e395.f5.length ≤ 9223372036854775807 ∧ ∀ e396 ∈ e395.f5, (Lit.int .i64 e396).wf = true))) → (Lit.int .i64 a2_0).wf = true → (Lit.int .i64 a2_1).wf = true → thwartlaw06_DiskPlays.f a0 l1 a2_0 a2_1 = some true
theorem thwartlaw06_DiskPlays.walk (P : thwartlaw06_DiskPlays.Pure) (a0 : Int) (A1 : Option Addr) (n1 c1 : Nat) (l1 : List (S37)) (a2_0 : Int) (a2_1 : Int) (w : World) (w0 : (Lit.int .i64 a0).wf = true) (K1 : (Kd.slice 37 k37).K w l1 [.slice A1 n1 c1]) (y1 : n1 * 88 ≤ 140737488351232) (G1 : (l1.length ≤ 9223372036854775807 ∧ ∀ e395 ∈ l1, ((Lit.int .i64 e395.f0).wf = true ∧ (Lit.int .i64 e395.f1).wf = true ∧ e395.f2.size ≤ 9223372036854775807 ∧ e395.f3.size ≤ 9223372036854775807 ∧ e395.f4.size ≤ 9223372036854775807 ∧ (e395.f5.length ≤ 9223372036854775807 ∧ ∀ e396 ∈ e395.f5, (Lit.int .i64 e396).wf = true)))) (wa2_0 : (Lit.int .i64 a2_0).wf = true) (wa2_1 : (Lit.int .i64 a2_1).wf = true) :
    Calls Try.prog 5 #[.int .i64 a0, .slice A1 n1 c1, .agg #[.int .i64 a2_0, .int .i64 a2_1]] w fun e w' => e = .returned (.bool true) ∧ Below w.heap.size w w' := by
  obtain ⟨A1_, c1_, e1, hc1, hr1⟩ := K1
  simp only [List.cons.injEq, Value.slice.injEq, and_true] at e1
  obtain ⟨rfl, rfl, rfl⟩ := e1
  have h := P a0 l1 a2_0 a2_1 w0 y1 G1 wa2_0 wa2_1
  refine (thwartlaw06_DiskPlays.calls a0 _ _ l1 a2_0 a2_1 true w hr1 hc1 h).mono ?_
  rintro e w' ⟨rfl, hd⟩
  exact ⟨rfl, hd⟩

end Go.Proofs.Ytpmnljdhjgjgfaa.Print
