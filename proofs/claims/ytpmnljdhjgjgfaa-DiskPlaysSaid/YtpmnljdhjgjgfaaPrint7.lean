/- Written by a program of mine (give.py, over the kit's print) out of the translation: contracts of the Go functions. Lean checks it. -/
import Derived.Test.YtpmnljdhjgjgfaaPrint0
namespace Go.Proofs.Ytpmnljdhjgjgfaa.Print
open Go.RowKit Go.Proofs.YtpmnljdhjgjgfaaW.PrintWords Go.Proofs.YtpmnljdhjgjgfaaW.PrintLast Go.Proofs.YtpmnljdhjgjgfaaW.PrintMore
attribute [local go_sem] max2_int min2_int max_two min_two max_three min_three max_four min_four   -- for this text's walks alone
set_option linter.unusedVariables false
set_option linter.unusedSimpArgs false

-- NOT PRINTED: function 61 (slices_partitionOrdered_string)

-- NOT PRINTED: function 51 (slices_pdqsortOrdered_string)

-- NOT PRINTED: function 48 (slices_Sort_string_string)

-- NOT PRINTED: function 40 (slices_Sorted_string)

-- NOT PRINTED: function 41 (disk_file)

-- NOT PRINTED: function 16 (disk_Disk_List)

-- NOT PRINTED: function 10 (disk_Disk_Crash)

-- NOT PRINTED: function 17 (disk_Disk_Size)

-- NOT PRINTED: function 29 (disk_Disk_Read)

-- NOT PRINTED: function 6 (thwartlaw06_awake)

-- NOT PRINTED: function 11 (thwartlaw06_all)

-- NOT PRINTED: function 13 (disk_Disk_Rename)

-- NOT PRINTED: function 14 (disk_Disk_Remove)

-- NOT PRINTED: function 15 (disk_Disk_Cut)

-- NOT PRINTED: function 18 (thwartref06_New)

/-- A state of type 56 at block g of W; what its slices lead to came in by w0. -/
def IsS56 (w0 W : World) (g : Nat) (f0 : Int) (f1 : List (S53)) (f2 : Int) (f3 : Bool) : Prop := ∃ A1 c1, W.heap[g]? = some (.cells #[.int .i64 f0, .slice A1 f1.length c1, .int .i64 f2, .bool f3] 56 (0, 0)) ∧ w0.heap.size ≤ g ∧ Kd.C k53 w0 A1 f1.length f1
theorem IsS56.grown {w0 W : World} {g : Nat} {f0 : Int} {f1 : List (S53)} {f2 : Int} {f3 : Bool} {W1 : World} {row : Option Nat} (h : IsS56 w0 W g f0 f1 f2 f3) (hw : W.grownBy W1 row) (hne : some g ≠ row) : IsS56 w0 W1 g f0 f1 f2 f3 := by
  obtain ⟨A1, c1, hb, hg, hr1⟩ := h
  exact ⟨A1, c1, blk_grown hb hw hne, hg, hr1⟩
theorem IsS56.own_neN {w0 W : World} {g : Nat} {f0 : Int} {f1 : List (S53)} {f2 : Int} {f3 : Bool} {α : Type} {d : Kd α} {e : Nat} {base : Nat} {ok : Nat → Prop} {v : Value} {xs : List α} (h : IsS56 w0 W g f0 f1 f2 f3) (ho : Kd.N d e W base ok v xs) (ht : e ≠ 56) : some g ≠ v.ownBlock := by
  obtain ⟨A1, c1, hb, hg, hr1⟩ := h
  exact Kd.N_ne ho hb ht
theorem IsS56.fresh {w0 W : World} {g : Nat} {f0 : Int} {f1 : List (S53)} {f2 : Int} {f3 : Bool} (h : IsS56 w0 W g f0 f1 f2 f3) : ∀ k, W.heap.size ≤ k → k ≠ g := by
  obtain ⟨A1, c1, hb, hg, hr1⟩ := h
  exact Kd.freshB hb
theorem IsS56.kept {w0 W : World} {g : Nat} {f0 : Int} {f1 : List (S53)} {f2 : Int} {f3 : Bool} {W1 : World} {S : Nat → Prop} (h : IsS56 w0 W g f0 f1 f2 f3) (hk : Kept W W1 S) (hne : ¬ S g) : IsS56 w0 W1 g f0 f1 f2 f3 := by
  obtain ⟨A1, c1, hb, hg, hr1⟩ := h
  exact ⟨A1, c1, blk_kept hb hk hne, hg, hr1⟩
theorem IsS56.below {w0 W : World} {g : Nat} {f0 : Int} {f1 : List (S53)} {f2 : Int} {f3 : Bool} {W1 : World} (h : IsS56 w0 W g f0 f1 f2 f3) (hw : Below W.heap.size W W1) : IsS56 w0 W1 g f0 f1 f2 f3 := h.grown (grown_of_below hw none) (by simp)
theorem IsS56.alloc {w0 W : World} {g : Nat} {f0 : Int} {f1 : List (S53)} {f2 : Int} {f3 : Bool} (h : IsS56 w0 W g f0 f1 f2 f3) (o : Obj) : IsS56 w0 (W.alloc o) g f0 f1 f2 f3 := h.below (below_alloc (Below.refl _ _) o)
theorem IsS56.drewN {w0 W : World} {g : Nat} {f0 : Int} {f1 : List (S53)} {f2 : Int} {f3 : Bool} (h : IsS56 w0 W g f0 f1 f2 f3) (m : Nat) : IsS56 w0 (W.drewN m) g f0 f1 f2 f3 := h
theorem IsS56.drew {w0 W : World} {g : Nat} {f0 : Int} {f1 : List (S53)} {f2 : Int} {f3 : Bool} (h : IsS56 w0 W g f0 f1 f2 f3) : IsS56 w0 W.drew g f0 f1 f2 f3 := h
theorem IsS56.at_ {w0 W : World} {g : Nat} {f0 : Int} {f1 : List (S53)} {f2 : Int} {f3 : Bool} {w' : World} {m : Nat} (hq : W.drewN m = w') (h : IsS56 w0 W g f0 f1 f2 f3) : IsS56 w0 w' g f0 f1 f2 f3 := by subst hq; exact IsS56.drewN h m
theorem IsS56.apart {w0 W : World} {g : Nat} {f0 : Int} {f1 : List (S53)} {f2 : Int} {f3 : Bool} {α : Type} {d : Kd α} {e : Nat} {base : Nat} {ok : Nat → Prop} {v : Value} {xs : List α} (h : IsS56 w0 W g f0 f1 f2 f3) (ho : d.R e W base ok v xs) (ht : ∀ q, q ∈ e :: d.E → q ≠ 56) : d.R e W base (fun k => ok k ∧ k ≠ g) v xs := by
  obtain ⟨A1, c1, hb, hg, hr1⟩ := h
  exact Kd.R_types ho hb ht
theorem IsS56.own_ne {w0 W : World} {g : Nat} {f0 : Int} {f1 : List (S53)} {f2 : Int} {f3 : Bool} {α : Type} {d : Kd α} {e : Nat} {base : Nat} {ok : Nat → Prop} {v : Value} {xs : List α} (h : IsS56 w0 W g f0 f1 f2 f3) (ho : d.R e W base ok v xs) (ht : e ≠ 56) : some g ≠ v.ownBlock := by
  obtain ⟨A1, c1, hb, hg, hr1⟩ := h
  exact Kd.R_ne ho hb ht
theorem IsS56.apartQ {w0 W : World} {g : Nat} {f0 : Int} {f1 : List (S53)} {f2 : Int} {f3 : Bool} {α : Type} {d : Kd α} {e : Nat} {base : Nat} {ok : Nat → Prop} {v : Value} {xs : List α} (h : IsS56 w0 W g f0 f1 f2 f3) (ho : d.Q e W base ok v xs) (ht : ∀ q, q ∈ e :: d.E → q ≠ 56) : d.Q e W base (fun k => ok k ∧ k ≠ g) v xs := by
  obtain ⟨A1, c1, hb, hg, hr1⟩ := h
  exact Kd.Q_types ho hb ht
theorem IsS56.own_neQ {w0 W : World} {g : Nat} {f0 : Int} {f1 : List (S53)} {f2 : Int} {f3 : Bool} {α : Type} {d : Kd α} {e : Nat} {base : Nat} {ok : Nat → Prop} {v : Value} {xs : List α} (h : IsS56 w0 W g f0 f1 f2 f3) (ho : d.Q e W base ok v xs) (ht : e ≠ 56) : some g ≠ v.ownBlock := by
  obtain ⟨A1, c1, hb, hg, hr1⟩ := h
  exact Kd.Q_ne ho hb ht
theorem IsS56.apartS {w0 W : World} {g : Nat} {f0 : Int} {f1 : List (S53)} {f2 : Int} {f3 : Bool} {α : Type} {d : Kd α} {e : Nat} {base : Nat} {ok : Nat → Prop} {v : Value} {xs : List α} (h : IsS56 w0 W g f0 f1 f2 f3) (ho : d.S e W base ok v xs) (ht : ∀ q, q ∈ e :: d.E → q ≠ 56) : d.S e W base (fun k => ok k ∧ k ≠ g) v xs := by
  obtain ⟨A1, c1, hb, hg, hr1⟩ := h
  exact Kd.S_types ho hb ht
theorem IsS56.own_neS {w0 W : World} {g : Nat} {f0 : Int} {f1 : List (S53)} {f2 : Int} {f3 : Bool} {α : Type} {d : Kd α} {e : Nat} {base : Nat} {ok : Nat → Prop} {v : Value} {xs : List α} (h : IsS56 w0 W g f0 f1 f2 f3) (ho : d.S e W base ok v xs) (ht : e ≠ 56) : some g ≠ v.ownBlock := by
  obtain ⟨A1, c1, hb, hg, hr1⟩ := h
  exact Kd.S_ne ho hb ht
theorem IsS56.lt {w0 W : World} {g : Nat} {f0 : Int} {f1 : List (S53)} {f2 : Int} {f3 : Bool} (h : IsS56 w0 W g f0 f1 f2 f3) : g < W.heap.size := by
  obtain ⟨A1, c1, hb, hg, hr1⟩ := h
  exact blk_lt hb
theorem IsS56.ge {w0 W : World} {g : Nat} {f0 : Int} {f1 : List (S53)} {f2 : Int} {f3 : Bool} (h : IsS56 w0 W g f0 f1 f2 f3) : w0.heap.size ≤ g := by
  obtain ⟨A1, c1, hb, hg, hr1⟩ := h
  exact hg
theorem IsS56.ne_blk {w0 W : World} {g : Nat} {f0 : Int} {f1 : List (S53)} {f2 : Int} {f3 : Bool} {a : Nat} {cs : Array Value} {t : TypeId} {fr : Nat × Nat} (h : IsS56 w0 W g f0 f1 f2 f3) (hb2 : W.heap[a]? = some (.cells cs t fr)) (ht : t ≠ 56) : g ≠ a := by
  obtain ⟨A1, c1, hb, hg, hr1⟩ := h
  rintro rfl
  rw [hb] at hb2
  injection hb2 with hb2
  injection hb2 with _ ht2
  exact ht ht2.symm
theorem IsS56.far {w0 W : World} {g : Nat} {f0 : Int} {f1 : List (S53)} {f2 : Int} {f3 : Bool} {p : Addr} (h : IsS56 w0 W g f0 f1 f2 f3) (hne : g ≠ p.block) (u : Value) : IsS56 w0 (W.setCell p u) g f0 f1 f2 f3 := by
  obtain ⟨A1, c1, hb, hg, hr1⟩ := h
  exact ⟨A1, c1, blk_far hb hne u, hg, hr1⟩
theorem cellS56_0 {W : World} {g : Nat} {A1 : Option Addr} {c1 : Nat} {f0 : Int} {f1 : List (S53)} {f2 : Int} {f3 : Bool} (h : W.heap[g]? = some (.cells #[.int .i64 f0, .slice A1 f1.length c1, .int .i64 f2, .bool f3] 56 (0, 0))) : W.cell? ⟨g, 0, none⟩ = some (.int .i64 f0) := (blk_cell h 0).trans rfl
theorem IsS56.set_0 {w0 W : World} {g : Nat} {f0 : Int} {f1 : List (S53)} {f2 : Int} {f3 : Bool} (h : IsS56 w0 W g f0 f1 f2 f3) (x : Int) : IsS56 w0 (W.setCell ⟨g, 0, none⟩ (.int .i64 x)) g x f1 f2 f3 := by
  obtain ⟨A1, c1, hb, hg, hr1⟩ := h
  exact ⟨A1, c1, by simpa using blk_set hb 0 (.int .i64 x), hg, hr1⟩
theorem cellS56_1 {W : World} {g : Nat} {A1 : Option Addr} {c1 : Nat} {f0 : Int} {f1 : List (S53)} {f2 : Int} {f3 : Bool} (h : W.heap[g]? = some (.cells #[.int .i64 f0, .slice A1 f1.length c1, .int .i64 f2, .bool f3] 56 (0, 0))) : W.cell? ⟨g, 1, none⟩ = some (.slice A1 f1.length c1) := (blk_cell h 1).trans rfl
theorem cellS56_2 {W : World} {g : Nat} {A1 : Option Addr} {c1 : Nat} {f0 : Int} {f1 : List (S53)} {f2 : Int} {f3 : Bool} (h : W.heap[g]? = some (.cells #[.int .i64 f0, .slice A1 f1.length c1, .int .i64 f2, .bool f3] 56 (0, 0))) : W.cell? ⟨g, 2, none⟩ = some (.int .i64 f2) := (blk_cell h 2).trans rfl
theorem IsS56.set_2 {w0 W : World} {g : Nat} {f0 : Int} {f1 : List (S53)} {f2 : Int} {f3 : Bool} (h : IsS56 w0 W g f0 f1 f2 f3) (x : Int) : IsS56 w0 (W.setCell ⟨g, 2, none⟩ (.int .i64 x)) g f0 f1 x f3 := by
  obtain ⟨A1, c1, hb, hg, hr1⟩ := h
  exact ⟨A1, c1, by simpa using blk_set hb 2 (.int .i64 x), hg, hr1⟩
theorem cellS56_3 {W : World} {g : Nat} {A1 : Option Addr} {c1 : Nat} {f0 : Int} {f1 : List (S53)} {f2 : Int} {f3 : Bool} (h : W.heap[g]? = some (.cells #[.int .i64 f0, .slice A1 f1.length c1, .int .i64 f2, .bool f3] 56 (0, 0))) : W.cell? ⟨g, 3, none⟩ = some (.bool f3) := (blk_cell h 3).trans rfl
theorem IsS56.set_3 {w0 W : World} {g : Nat} {f0 : Int} {f1 : List (S53)} {f2 : Int} {f3 : Bool} (h : IsS56 w0 W g f0 f1 f2 f3) (x : Bool) : IsS56 w0 (W.setCell ⟨g, 3, none⟩ (.bool x)) g f0 f1 f2 x := by
  obtain ⟨A1, c1, hb, hg, hr1⟩ := h
  exact ⟨A1, c1, by simpa using blk_set hb 3 (.bool x), hg, hr1⟩
theorem IsS56.new (w0 W : World) (A1 : Option Addr) (c1 : Nat) (f0 : Int) (f1 : List (S53)) (f2 : Int) (f3 : Bool) (hB : Below w0.heap.size w0 W) (hr1 : Kd.C k53 w0 A1 f1.length f1) : IsS56 w0 (W.alloc (.cells #[.int .i64 f0, .slice A1 f1.length c1, .int .i64 f2, .bool f3] 56)) W.heap.size f0 f1 f2 f3 := ⟨A1, c1, by simpa using heap_alloc_new W _, hB.size, hr1⟩

/-! ### thwartref06_Disk_Left: function 31 -/
def thwartref06_Disk_Left.l0 : Nat → Int → Int → Int → List (S53) → Int → Bool → Option (Int × Int × Int × Bool)
  | 0, _, _, _, _, _, _ => none
  | k + 1, x3, x4, x1000, x1001, x1002, x1003 => if x4 < (x1001.length : Int) then (if 0 ≤ x4 then (thwartref06_Disk_Left.l0 k (wrap64 (x3 - (((rd_T53 x1001 x4).f1).size : Int))) (wrap64 (x4 + 1)) x1000 x1001 x1002 x1003) else (none)) else (some (x3, x1000, x1002, x1003))
def thwartref06_Disk_Left.f (k : Nat) (s0_0 : Int) (s0_1 : List (S53)) (s0_2 : Int) (s0_3 : Bool) : Option (Int × Int × Int × Bool) := thwartref06_Disk_Left.l0 k s0_0 0 s0_0 s0_1 s0_2 s0_3
theorem thwartref06_Disk_Left.mono_l : ∀ k, (∀ y0 y1 y2 y3 y4 y5, LeO (thwartref06_Disk_Left.l0 k y0 y1 y2 y3 y4 y5) (thwartref06_Disk_Left.l0 (k + 1) y0 y1 y2 y3 y4 y5))
  | 0 => fun _ _ _ _ _ _ r h => by simp [thwartref06_Disk_Left.l0] at h
  | k + 1 => by
    have ih0 := thwartref06_Disk_Left.mono_l k
    · intro y0 y1 y2 y3 y4 y5
      unfold thwartref06_Disk_Left.l0
      repeat' first
      | (with_reducible exact ih0 _ _ _ _ _ _)
      | (with_reducible exact LeO.refl _)
      | (with_reducible exact LeO.none _)
      | (with_reducible refine LeO.ite ?_ ?_)
      | (with_reducible refine LeO.bind ?_ (fun _ => ?_))
      | exact ih0 _ _ _ _ _ _
      | exact LeO.none _
      | refine LeO.ite ?_ ?_
      | refine LeO.bind ?_ (fun _ => ?_)
theorem thwartref06_Disk_Left.mono : ∀ a0 a1 a2 a3 k, LeO (thwartref06_Disk_Left.f k a0 a1 a2 a3) (thwartref06_Disk_Left.f (k + 1) a0 a1 a2 a3) := by
  intro a0 a1 a2 a3 k
  have ih0 := thwartref06_Disk_Left.mono_l k
  unfold thwartref06_Disk_Left.f
  repeat' first
      | (with_reducible exact ih0 _ _ _ _ _ _)
      | (with_reducible exact LeO.refl _)
      | (with_reducible exact LeO.none _)
      | (with_reducible refine LeO.ite ?_ ?_)
      | (with_reducible refine LeO.bind ?_ (fun _ => ?_))
      | exact ih0 _ _ _ _ _ _
      | exact LeO.none _
      | refine LeO.ite ?_ ?_
      | refine LeO.bind ?_ (fun _ => ?_)
set_option maxHeartbeats 8000000 in
set_option maxRecDepth 100000 in
theorem thwartref06_Disk_Left.calls (k : Nat) (g : Nat) (s0_0 : Int) (s0_1 : List (S53)) (s0_2 : Int) (s0_3 : Bool) (r1 : Int) (r2 : Int) (r3 : Int) (r4 : Bool) (w0 w : World) (hI : IsS56 w0 w g s0_0 s0_1 s0_2 s0_3) (hB : Below w0.heap.size w0 w) (h : thwartref06_Disk_Left.f k s0_0 s0_1 s0_2 s0_3 = some (r1, r2, r3, r4)) :
    Calls Try.prog 31 #[.pointer (some ⟨g, 0, none⟩)] w fun e w' => e = .returned (.int .i64 r1) ∧ IsS56 w0 w' g r2 s0_1 r3 r4 ∧ Below w0.heap.size w0 w' ∧ KeepBut w w' g none := by
  have HI0 := Aside0.mk hI
  have HK := Aside0.mk (KeepBut.refl w g none)
  have HL := Aside0.mk hB.size
  clear hI
  have HW0 := Aside0.mk hB.size
  have HB := Aside0.mk hB
  clear hB
  have H : (thwartref06_Disk_Left.l0 k s0_0 0 s0_0 s0_1 s0_2 s0_3) = some (r1, r2, r3, r4) := h
  clear h
  have H' := Aside0.mk H
  clear H
  obtain ⟨ASz2_1, cSz2_1, HGz2, hgz2, HSz2_1⟩ := HI0.out
  have hcz2_0 := cellS56_0 HGz2
  have hcz2_1 := cellS56_1 HGz2
  have hcz2_2 := cellS56_2 HGz2
  have hcz2_3 := cellS56_3 HGz2
  have hfz2_0 := blk_frozen HGz2 0
  have hfz2_2 := blk_frozen HGz2 2
  have hfz2_3 := blk_frozen HGz2 3
  clear HGz2 hgz2
  go_enter Try.func31, Try.ntmps31
  go_wp2
  go_loopg [3, 4] k (fun kq v3 v4 w' => ∃ (x3_1 : Int) (x4_1 : Int), v3 = .int .i64 x3_1 ∧ v4 = .int .i64 x4_1 ∧ Aside0 (thwartref06_Disk_Left.l0 kq x3_1 x4_1 s0_0 s0_1 s0_2 s0_3 = some (r1, r2, r3, r4)) ∧ Aside0 (kq ≤ k) ∧ Aside0 (IsS56 w0 w' g s0_0 s0_1 s0_2 s0_3) ∧ Aside0 (KeepBut w w' g none) ∧ Aside0 (Below w0.heap.size w0 w'))
  case atStart => exact ⟨(s0_0), (0), (by first | rfl | (simp; done) | (simp [*]; done)), (by first | rfl | (simp; done) | (simp [*]; done)), H', ⟨Nat.le_refl _⟩, ⟨by repeat (first | (with_reducible first | exact HI0.out | apply IsS56.alloc | apply IsS56.drewN | apply IsS56.drew | apply IsS56.set_0 | apply IsS56.set_2 | apply IsS56.set_3) | exact HI0.out)⟩, ⟨by repeat (first | (with_reducible first | exact HK.out | apply KeepBut.set_ | apply keep_drewN | apply keep_drew | apply keep_alloc) | exact HK.out)⟩, ⟨by repeat (first | (with_reducible first | exact HB.out | apply below_alloc | apply pw_below_drewN | apply below_drew1 | refine below_set ?_ (IsS56.ge HI0.out)) | exact HB.out)⟩⟩
  case round =>
    clear H'
    try clear p2
    try clear hcz2_0
    try clear hcz2_1
    try clear hcz2_2
    try clear hcz2_3
    try clear hfz2_0
    try clear hfz2_2
    try clear hfz2_3
    obtain ⟨x3_1, x4_1, rfl, rfl, HA, HK1, HI0, HK, HB⟩ := hrel
    cases gk with
    | zero => exact absurd HA.out (by simp [thwartref06_Disk_Left.l0])
    | succ k1 =>
      have H := HA.out
      clear HA
      simp only [thwartref06_Disk_Left.l0] at H
      by_cases c3 : x4_1 < (s0_1.length : Int)
      · rw [if_pos c3] at H
        have c3b0 : decide (x4_1 < (s0_1.length : Int)) = true := decide_eq_true c3
        clear c3
        by_cases c4 : 0 ≤ x4_1
        · rw [if_pos c4] at H
          have c4b0 : decide (0 ≤ x4_1) = true := decide_eq_true c4
          clear c4
          have H' := Aside0.mk H
          clear H
          obtain ⟨ASz5_1, cSz5_1, HGz5, hgz5, HSz5_1⟩ := HI0.out
          have hcz5_0 := cellS56_0 HGz5
          have hcz5_1 := cellS56_1 HGz5
          have hcz5_2 := cellS56_2 HGz5
          have hcz5_3 := cellS56_3 HGz5
          have hfz5_0 := blk_frozen HGz5 0
          have hfz5_2 := blk_frozen HGz5 2
          have hfz5_3 := blk_frozen HGz5 3
          clear HGz5 hgz5
          have p221 : 0 ≤ (x4_1 : Int) := of_decide_eq_true (by first | (with_reducible assumption) | assumption)
          have q221 : x4_1 < (s0_1.length : Int) := of_decide_eq_true (by first | (with_reducible assumption) | assumption)
          obtain ⟨ad221, e221, hx221_0, hx221_1, hx221_2⟩ := at_T53 HSz5_1 x4_1 p221 q221
          cases e221
          replace hx221_0 := pw_cell_below HB.out hx221_0
          replace hx221_1 := pw_cell_below HB.out hx221_1
          replace hx221_2 := pw_cell_below HB.out hx221_2
          replace p221 := eq_true p221
          replace q221 := eq_true q221
          go_wp2
          go_roundg k1
          case measure => have := HK1.out; omega
          case rel => exact ⟨(wrap64 (x3_1 - (((rd_T53 s0_1 x4_1).f1).size : Int))), (wrap64 (x4_1 + 1)), (by first | rfl | (simp; done) | (simp [*]; done)), (by first | rfl | (simp; done) | (simp [*]; done)), H', ⟨by have := HK1.out; omega⟩, ⟨by repeat (first | (with_reducible first | exact HI0.out | apply IsS56.alloc | apply IsS56.drewN | apply IsS56.drew | apply IsS56.set_0 | apply IsS56.set_2 | apply IsS56.set_3) | exact HI0.out)⟩, ⟨by repeat (first | (with_reducible first | exact HK.out | apply KeepBut.set_ | apply keep_drewN | apply keep_drew | apply keep_alloc) | exact HK.out)⟩, ⟨by repeat (first | (with_reducible first | exact HB.out | apply below_alloc | apply pw_below_drewN | apply below_drew1 | refine below_set ?_ (IsS56.ge HI0.out)) | exact HB.out)⟩⟩
        · rw [if_neg c4] at H
          exact absurd H (by simp)
      · rw [if_neg c3] at H
        have c3b0 : decide (x4_1 < (s0_1.length : Int)) = false := decide_eq_false c3
        clear c3
        simp only [Option.some.injEq, Prod.mk.injEq] at H
        obtain ⟨rfl, rfl, rfl, rfl⟩ := H
        obtain ⟨ASz6_1, cSz6_1, HGz6, hgz6, HSz6_1⟩ := HI0.out
        have hcz6_0 := cellS56_0 HGz6
        have hcz6_1 := cellS56_1 HGz6
        have hcz6_2 := cellS56_2 HGz6
        have hcz6_3 := cellS56_3 HGz6
        have hfz6_0 := blk_frozen HGz6 0
        have hfz6_2 := blk_frozen HGz6 2
        have hfz6_3 := blk_frozen HGz6 3
        clear HGz6 hgz6
        go_wp2
        go_ret
        exact ⟨by first | rfl | (simp [errW_none, errW_some] <;> rfl) | (simp [*, errW_none, errW_some] <;> rfl) | (simp [errW_none, errW_some]; exact isEmpty_bne _), by repeat (first | (with_reducible first | exact HI0.out | apply IsS56.alloc | apply IsS56.drewN | apply IsS56.drew | apply IsS56.set_0 | apply IsS56.set_2 | apply IsS56.set_3) | exact HI0.out), by repeat (first | (with_reducible first | exact HB.out | apply below_alloc | apply pw_below_drewN | apply below_drew1 | refine below_set ?_ (IsS56.ge HI0.out)) | exact HB.out), by repeat (first | (with_reducible first | exact HK.out | apply KeepBut.set_ | apply keep_drewN | apply keep_drew | apply keep_alloc) | exact HK.out)⟩

/-! ### thwartref06_right: function 42 -/
def thwartref06_right.f (a0 : ByteArray) : Option (Bool) := if (a0.size : Int) ≥ 1 then (some (decide ((a0.size : Int) ≤ 20))) else (some false)
set_option maxHeartbeats 8000000 in
set_option maxRecDepth 100000 in
theorem thwartref06_right.calls (a0 : ByteArray) (r : Bool) (w : World) (h : thwartref06_right.f a0 = some r) :
    Calls Try.prog 42 #[.string a0] w fun e w' => e = .returned (.bool r) ∧ Drawn0 w w' := by
  have H : (if (a0.size : Int) ≥ 1 then (some (decide ((a0.size : Int) ≤ 20))) else (some false)) = some r := h
  clear h
  by_cases c2 : (a0.size : Int) ≥ 1
  · rw [if_pos c2] at H
    have c2b0 : decide (1 ≤ (a0.size : Int)) = true := decide_eq_true c2
    have c2b1 : decide (1 ≤ a0.size) = true := decide_eq_true (by omega)
    clear c2
    obtain rfl := Option.some.inj H
    go_enter Try.func42, Try.ntmps42
    go_wp2
    go_ret
    exact ⟨by first | rfl | (simp; done) | (simp [*]; done), by repeat (first | exact Drawn0.refl _ | apply Drawn0.step)⟩
  · rw [if_neg c2] at H
    have c2b0 : decide (1 ≤ (a0.size : Int)) = false := decide_eq_false c2
    have c2b1 : decide (1 ≤ a0.size) = false := decide_eq_false (by omega)
    clear c2
    obtain rfl := Option.some.inj H
    go_enter Try.func42, Try.ntmps42
    go_wp2
    go_ret
    exact ⟨by first | rfl | (simp; done) | (simp [*]; done), by repeat (first | exact Drawn0.refl _ | apply Drawn0.step)⟩

/-! ### thwartref06_Disk_burn: function 43 -/
def thwartref06_Disk_burn.j0 : Nat → Bool → Int → List (S53) → Int → Bool → Option (Bool × Int × Int × Bool)
  | 0, _, _, _, _, _ => none
  | k + 1, x13, x1000, x1001, x1002, x1003 => if x13 = true then (some (false, x1000, x1002, true)) else (if x1002 > 0 then (some (true, x1000, wrap64 (x1002 - 1), x1003)) else (some (true, x1000, x1002, x1003)))
def thwartref06_Disk_burn.f (k : Nat) (s0_0 : Int) (s0_1 : List (S53)) (s0_2 : Int) (s0_3 : Bool) : Option (Bool × Int × Int × Bool) := if s0_3 = true then (thwartref06_Disk_burn.j0 k true s0_0 s0_1 s0_2 s0_3) else (thwartref06_Disk_burn.j0 k (s0_2 == 0) s0_0 s0_1 s0_2 s0_3)
theorem thwartref06_Disk_burn.mono_l : ∀ k, (∀ y0 y1 y2 y3 y4, LeO (thwartref06_Disk_burn.j0 k y0 y1 y2 y3 y4) (thwartref06_Disk_burn.j0 (k + 1) y0 y1 y2 y3 y4))
  | 0 => fun _ _ _ _ _ r h => by simp [thwartref06_Disk_burn.j0] at h
  | k + 1 => by
    have ih0 := thwartref06_Disk_burn.mono_l k
    · intro y0 y1 y2 y3 y4
      unfold thwartref06_Disk_burn.j0
      repeat' first
      | (with_reducible exact ih0 _ _ _ _ _)
      | (with_reducible exact LeO.refl _)
      | (with_reducible exact LeO.none _)
      | (with_reducible refine LeO.ite ?_ ?_)
      | (with_reducible refine LeO.bind ?_ (fun _ => ?_))
      | exact ih0 _ _ _ _ _
      | exact LeO.none _
      | refine LeO.ite ?_ ?_
      | refine LeO.bind ?_ (fun _ => ?_)
theorem thwartref06_Disk_burn.mono : ∀ a0 a1 a2 a3 k, LeO (thwartref06_Disk_burn.f k a0 a1 a2 a3) (thwartref06_Disk_burn.f (k + 1) a0 a1 a2 a3) := by
  intro a0 a1 a2 a3 k
  have ih0 := thwartref06_Disk_burn.mono_l k
  unfold thwartref06_Disk_burn.f
  repeat' first
      | (with_reducible exact ih0 _ _ _ _ _)
      | (with_reducible exact LeO.refl _)
      | (with_reducible exact LeO.none _)
      | (with_reducible refine LeO.ite ?_ ?_)
      | (with_reducible refine LeO.bind ?_ (fun _ => ?_))
      | exact ih0 _ _ _ _ _
      | exact LeO.none _
      | refine LeO.ite ?_ ?_
      | refine LeO.bind ?_ (fun _ => ?_)
set_option maxHeartbeats 8000000 in
set_option maxRecDepth 100000 in
theorem thwartref06_Disk_burn.calls (k : Nat) (g : Nat) (s0_0 : Int) (s0_1 : List (S53)) (s0_2 : Int) (s0_3 : Bool) (r1 : Bool) (r2 : Int) (r3 : Int) (r4 : Bool) (w0 w : World) (hI : IsS56 w0 w g s0_0 s0_1 s0_2 s0_3) (hB : Below w0.heap.size w0 w) (h : thwartref06_Disk_burn.f k s0_0 s0_1 s0_2 s0_3 = some (r1, r2, r3, r4)) :
    Calls Try.prog 43 #[.pointer (some ⟨g, 0, none⟩)] w fun e w' => e = .returned (.bool r1) ∧ IsS56 w0 w' g r2 s0_1 r3 r4 ∧ Below w0.heap.size w0 w' ∧ KeepBut w w' g none := by
  have HI0 := Aside0.mk hI
  have HK := Aside0.mk (KeepBut.refl w g none)
  have HL := Aside0.mk hB.size
  clear hI
  have HW0 := Aside0.mk hB.size
  have HB := Aside0.mk hB
  clear hB
  have H : (if s0_3 = true then (thwartref06_Disk_burn.j0 k true s0_0 s0_1 s0_2 s0_3) else (thwartref06_Disk_burn.j0 k (s0_2 == 0) s0_0 s0_1 s0_2 s0_3)) = some (r1, r2, r3, r4) := h
  clear h
  have HC2 := Aside0.mk H
  clear H
  go_enter Try.func43, Try.ntmps43
  go_upto_region 1 with (fail)
  go_cut [13] (fun v13 wc => ∃ (kq : Nat) (x13_1 : Bool), v13 = .bool x13_1 ∧ Aside0 (thwartref06_Disk_burn.j0 kq x13_1 s0_0 s0_1 s0_2 s0_3 = some (r1, r2, r3, r4)) ∧ Aside0 (kq ≤ k) ∧ Aside0 (IsS56 w0 wc g s0_0 s0_1 s0_2 s0_3) ∧ Aside0 (KeepBut w wc g none) ∧ Aside0 (Below w0.heap.size w0 wc))
  case first =>
    have H := HC2.out
    clear HC2
    by_cases c3 : s0_3 = true
    · subst c3
      have H1 : (thwartref06_Disk_burn.j0 k true s0_0 s0_1 s0_2 true) = some (r1, r2, r3, r4) := by rw [if_pos rfl] at H; exact H
      clear H
      have H := H1
      clear H1
      have H' := Aside0.mk H
      clear H
      obtain ⟨ASz4_1, cSz4_1, HGz4, hgz4, HSz4_1⟩ := HI0.out
      have hcz4_0 := cellS56_0 HGz4
      have hcz4_1 := cellS56_1 HGz4
      have hcz4_2 := cellS56_2 HGz4
      have hcz4_3 := cellS56_3 HGz4
      have hfz4_0 := blk_frozen HGz4 0
      have hfz4_2 := blk_frozen HGz4 2
      have hfz4_3 := blk_frozen HGz4 3
      clear HGz4 hgz4
      go_wp2
      go_meet
      case rel => exact ⟨_, (true), (by first | rfl | (simp; done) | (simp [*]; done)), H', ⟨by first | omega | exact Nat.le_refl _⟩, ⟨by repeat (first | (with_reducible first | exact HI0.out | apply IsS56.alloc | apply IsS56.drewN | apply IsS56.drew | apply IsS56.set_0 | apply IsS56.set_2 | apply IsS56.set_3) | exact HI0.out)⟩, ⟨by repeat (first | (with_reducible first | exact HK.out | apply KeepBut.set_ | apply keep_drewN | apply keep_drew | apply keep_alloc) | exact HK.out)⟩, ⟨by repeat (first | (with_reducible first | exact HB.out | apply below_alloc | apply pw_below_drewN | apply below_drew1 | refine below_set ?_ (IsS56.ge HI0.out)) | exact HB.out)⟩⟩
    · replace c3 := Bool.eq_false_iff.mpr c3
      subst c3
      have H1 : (thwartref06_Disk_burn.j0 k (s0_2 == 0) s0_0 s0_1 s0_2 false) = some (r1, r2, r3, r4) := by rw [if_neg (show ¬ (false = true) by decide)] at H; exact H
      clear H
      have H := H1
      clear H1
      have H' := Aside0.mk H
      clear H
      obtain ⟨ASz5_1, cSz5_1, HGz5, hgz5, HSz5_1⟩ := HI0.out
      have hcz5_0 := cellS56_0 HGz5
      have hcz5_1 := cellS56_1 HGz5
      have hcz5_2 := cellS56_2 HGz5
      have hcz5_3 := cellS56_3 HGz5
      have hfz5_0 := blk_frozen HGz5 0
      have hfz5_2 := blk_frozen HGz5 2
      have hfz5_3 := blk_frozen HGz5 3
      clear HGz5 hgz5
      go_wp2
      go_meet
      case rel => exact ⟨_, ((s0_2 == 0)), (by first | rfl | (simp; done) | (simp [*]; done)), H', ⟨by first | omega | exact Nat.le_refl _⟩, ⟨by repeat (first | (with_reducible first | exact HI0.out | apply IsS56.alloc | apply IsS56.drewN | apply IsS56.drew | apply IsS56.set_0 | apply IsS56.set_2 | apply IsS56.set_3) | exact HI0.out)⟩, ⟨by repeat (first | (with_reducible first | exact HK.out | apply KeepBut.set_ | apply keep_drewN | apply keep_drew | apply keep_alloc) | exact HK.out)⟩, ⟨by repeat (first | (with_reducible first | exact HB.out | apply below_alloc | apply pw_below_drewN | apply below_drew1 | refine below_set ?_ (IsS56.ge HI0.out)) | exact HB.out)⟩⟩
  case rest =>
    clear HC2
    try clear p2
    try clear c3
    try clear c4
    try clear hcz4_0
    try clear hcz4_1
    try clear hcz4_2
    try clear hcz4_3
    try clear hcz5_0
    try clear hcz5_1
    try clear hcz5_2
    try clear hcz5_3
    try clear hfz4_0
    try clear hfz4_2
    try clear hfz4_3
    try clear hfz5_0
    try clear hfz5_2
    try clear hfz5_3
    obtain ⟨kq, x13_1, rfl, HA, HJ1, HI0, HK, HB⟩ := hcut
    cases kq with
    | zero => exact absurd HA.out (by simp [thwartref06_Disk_burn.j0])
    | succ kj1 =>
      have H := HA.out
      clear HA
      simp only [thwartref06_Disk_burn.j0] at H
      by_cases c6 : x13_1 = true
      · subst c6
        have H1 : (some (false, s0_0, s0_2, true)) = some (r1, r2, r3, r4) := by rw [if_pos rfl] at H; exact H
        clear H
        have H := H1
        clear H1
        simp only [Option.some.injEq, Prod.mk.injEq] at H
        obtain ⟨rfl, rfl, rfl, rfl⟩ := H
        obtain ⟨ASz7_1, cSz7_1, HGz7, hgz7, HSz7_1⟩ := HI0.out
        have hcz7_0 := cellS56_0 HGz7
        have hcz7_1 := cellS56_1 HGz7
        have hcz7_2 := cellS56_2 HGz7
        have hcz7_3 := cellS56_3 HGz7
        have hfz7_0 := blk_frozen HGz7 0
        have hfz7_2 := blk_frozen HGz7 2
        have hfz7_3 := blk_frozen HGz7 3
        clear HGz7 hgz7
        go_wp2
        go_ret
        exact ⟨by first | rfl | (simp [errW_none, errW_some] <;> rfl) | (simp [*, errW_none, errW_some] <;> rfl) | (simp [errW_none, errW_some]; exact isEmpty_bne _), by repeat (first | (with_reducible first | exact HI0.out | apply IsS56.alloc | apply IsS56.drewN | apply IsS56.drew | apply IsS56.set_0 | apply IsS56.set_2 | apply IsS56.set_3) | exact HI0.out), by repeat (first | (with_reducible first | exact HB.out | apply below_alloc | apply pw_below_drewN | apply below_drew1 | refine below_set ?_ (IsS56.ge HI0.out)) | exact HB.out), by repeat (first | (with_reducible first | exact HK.out | apply KeepBut.set_ | apply keep_drewN | apply keep_drew | apply keep_alloc) | exact HK.out)⟩
      · replace c6 := Bool.eq_false_iff.mpr c6
        subst c6
        have H1 : (if s0_2 > 0 then (some (true, s0_0, wrap64 (s0_2 - 1), s0_3)) else (some (true, s0_0, s0_2, s0_3))) = some (r1, r2, r3, r4) := by rw [if_neg (show ¬ (false = true) by decide)] at H; exact H
        clear H
        have H := H1
        clear H1
        by_cases c8 : s0_2 > 0
        · rw [if_pos c8] at H
          have c8b0 : decide (0 < s0_2) = true := decide_eq_true c8
          clear c8
          simp only [Option.some.injEq, Prod.mk.injEq] at H
          obtain ⟨rfl, rfl, rfl, rfl⟩ := H
          obtain ⟨ASz9_1, cSz9_1, HGz9, hgz9, HSz9_1⟩ := HI0.out
          have hcz9_0 := cellS56_0 HGz9
          have hcz9_1 := cellS56_1 HGz9
          have hcz9_2 := cellS56_2 HGz9
          have hcz9_3 := cellS56_3 HGz9
          have hfz9_0 := blk_frozen HGz9 0
          have hfz9_2 := blk_frozen HGz9 2
          have hfz9_3 := blk_frozen HGz9 3
          clear HGz9 hgz9
          go_wp2
          go_ret
          exact ⟨by first | rfl | (simp [errW_none, errW_some] <;> rfl) | (simp [*, errW_none, errW_some] <;> rfl) | (simp [errW_none, errW_some]; exact isEmpty_bne _), by repeat (first | (with_reducible first | exact HI0.out | apply IsS56.alloc | apply IsS56.drewN | apply IsS56.drew | apply IsS56.set_0 | apply IsS56.set_2 | apply IsS56.set_3) | exact HI0.out), by repeat (first | (with_reducible first | exact HB.out | apply below_alloc | apply pw_below_drewN | apply below_drew1 | refine below_set ?_ (IsS56.ge HI0.out)) | exact HB.out), by repeat (first | (with_reducible first | exact HK.out | apply KeepBut.set_ | apply keep_drewN | apply keep_drew | apply keep_alloc) | exact HK.out)⟩
        · rw [if_neg c8] at H
          have c8b0 : decide (0 < s0_2) = false := decide_eq_false c8
          clear c8
          simp only [Option.some.injEq, Prod.mk.injEq] at H
          obtain ⟨rfl, rfl, rfl, rfl⟩ := H
          obtain ⟨ASz10_1, cSz10_1, HGz10, hgz10, HSz10_1⟩ := HI0.out
          have hcz10_0 := cellS56_0 HGz10
          have hcz10_1 := cellS56_1 HGz10
          have hcz10_2 := cellS56_2 HGz10
          have hcz10_3 := cellS56_3 HGz10
          have hfz10_0 := blk_frozen HGz10 0
          have hfz10_2 := blk_frozen HGz10 2
          have hfz10_3 := blk_frozen HGz10 3
          clear HGz10 hgz10
          go_wp2
          go_ret
          exact ⟨by first | rfl | (simp [errW_none, errW_some] <;> rfl) | (simp [*, errW_none, errW_some] <;> rfl) | (simp [errW_none, errW_some]; exact isEmpty_bne _), by repeat (first | (with_reducible first | exact HI0.out | apply IsS56.alloc | apply IsS56.drewN | apply IsS56.drew | apply IsS56.set_0 | apply IsS56.set_2 | apply IsS56.set_3) | exact HI0.out), by repeat (first | (with_reducible first | exact HB.out | apply below_alloc | apply pw_below_drewN | apply below_drew1 | refine below_set ?_ (IsS56.ge HI0.out)) | exact HB.out), by repeat (first | (with_reducible first | exact HK.out | apply KeepBut.set_ | apply keep_drewN | apply keep_drew | apply keep_alloc) | exact HK.out)⟩

/-! ### thwartref06_Disk_at: function 44 -/
def thwartref06_Disk_at.l0 : Nat → ByteArray → Int → Int → List (S53) → Int → Bool → Option (Int × Int × Int × Bool)
  | 0, _, _, _, _, _, _ => none
  | k + 1, x1, x5, x1000, x1001, x1002, x1003 => if x5 < (x1001.length : Int) then (if 0 ≤ x5 then (if ((rd_T53 x1001 x5).f0).toList = x1.toList then (some (x5, x1000, x1002, x1003)) else (thwartref06_Disk_at.l0 k x1 (wrap64 (x5 + 1)) x1000 x1001 x1002 x1003)) else (none)) else (some ((-1), x1000, x1002, x1003))
def thwartref06_Disk_at.f (k : Nat) (s0_0 : Int) (s0_1 : List (S53)) (s0_2 : Int) (s0_3 : Bool) (a1 : ByteArray) : Option (Int × Int × Int × Bool) := thwartref06_Disk_at.l0 k a1 0 s0_0 s0_1 s0_2 s0_3
theorem thwartref06_Disk_at.mono_l : ∀ k, (∀ y0 y1 y2 y3 y4 y5, LeO (thwartref06_Disk_at.l0 k y0 y1 y2 y3 y4 y5) (thwartref06_Disk_at.l0 (k + 1) y0 y1 y2 y3 y4 y5))
  | 0 => fun _ _ _ _ _ _ r h => by simp [thwartref06_Disk_at.l0] at h
  | k + 1 => by
    have ih0 := thwartref06_Disk_at.mono_l k
    · intro y0 y1 y2 y3 y4 y5
      unfold thwartref06_Disk_at.l0
      repeat' first
      | (with_reducible exact ih0 _ _ _ _ _ _)
      | (with_reducible exact LeO.refl _)
      | (with_reducible exact LeO.none _)
      | (with_reducible refine LeO.ite ?_ ?_)
      | (with_reducible refine LeO.bind ?_ (fun _ => ?_))
      | exact ih0 _ _ _ _ _ _
      | exact LeO.none _
      | refine LeO.ite ?_ ?_
      | refine LeO.bind ?_ (fun _ => ?_)
theorem thwartref06_Disk_at.mono : ∀ a0 a1 a2 a3 a4 k, LeO (thwartref06_Disk_at.f k a0 a1 a2 a3 a4) (thwartref06_Disk_at.f (k + 1) a0 a1 a2 a3 a4) := by
  intro a0 a1 a2 a3 a4 k
  have ih0 := thwartref06_Disk_at.mono_l k
  unfold thwartref06_Disk_at.f
  repeat' first
      | (with_reducible exact ih0 _ _ _ _ _ _)
      | (with_reducible exact LeO.refl _)
      | (with_reducible exact LeO.none _)
      | (with_reducible refine LeO.ite ?_ ?_)
      | (with_reducible refine LeO.bind ?_ (fun _ => ?_))
      | exact ih0 _ _ _ _ _ _
      | exact LeO.none _
      | refine LeO.ite ?_ ?_
      | refine LeO.bind ?_ (fun _ => ?_)
set_option maxHeartbeats 8000000 in
set_option maxRecDepth 100000 in
theorem thwartref06_Disk_at.calls (k : Nat) (g : Nat) (s0_0 : Int) (s0_1 : List (S53)) (s0_2 : Int) (s0_3 : Bool) (a1 : ByteArray) (r1 : Int) (r2 : Int) (r3 : Int) (r4 : Bool) (w0 w : World) (hI : IsS56 w0 w g s0_0 s0_1 s0_2 s0_3) (hB : Below w0.heap.size w0 w) (h : thwartref06_Disk_at.f k s0_0 s0_1 s0_2 s0_3 a1 = some (r1, r2, r3, r4)) :
    Calls Try.prog 44 #[.pointer (some ⟨g, 0, none⟩), .string a1] w fun e w' => e = .returned (.int .i64 r1) ∧ IsS56 w0 w' g r2 s0_1 r3 r4 ∧ Below w0.heap.size w0 w' ∧ KeepBut w w' g none := by
  have HI0 := Aside0.mk hI
  have HK := Aside0.mk (KeepBut.refl w g none)
  have HL := Aside0.mk hB.size
  clear hI
  have HW0 := Aside0.mk hB.size
  have HB := Aside0.mk hB
  clear hB
  have H : (thwartref06_Disk_at.l0 k a1 0 s0_0 s0_1 s0_2 s0_3) = some (r1, r2, r3, r4) := h
  clear h
  have H' := Aside0.mk H
  clear H
  go_enter Try.func44, Try.ntmps44
  go_wp2
  go_loopg [5] k (fun kq v5 w' => ∃ (x5_1 : Int), v5 = .int .i64 x5_1 ∧ Aside0 (thwartref06_Disk_at.l0 kq a1 x5_1 s0_0 s0_1 s0_2 s0_3 = some (r1, r2, r3, r4)) ∧ Aside0 (kq ≤ k) ∧ Aside0 (IsS56 w0 w' g s0_0 s0_1 s0_2 s0_3) ∧ Aside0 (KeepBut w w' g none) ∧ Aside0 (Below w0.heap.size w0 w'))
  case atStart => exact ⟨(0), (by first | rfl | (simp; done) | (simp [*]; done)), H', ⟨Nat.le_refl _⟩, ⟨by repeat (first | (with_reducible first | exact HI0.out | apply IsS56.alloc | apply IsS56.drewN | apply IsS56.drew | apply IsS56.set_0 | apply IsS56.set_2 | apply IsS56.set_3) | exact HI0.out)⟩, ⟨by repeat (first | (with_reducible first | exact HK.out | apply KeepBut.set_ | apply keep_drewN | apply keep_drew | apply keep_alloc) | exact HK.out)⟩, ⟨by repeat (first | (with_reducible first | exact HB.out | apply below_alloc | apply pw_below_drewN | apply below_drew1 | refine below_set ?_ (IsS56.ge HI0.out)) | exact HB.out)⟩⟩
  case round =>
    clear H'
    try clear p2
    obtain ⟨x5_1, rfl, HA, HK1, HI0, HK, HB⟩ := hrel
    cases gk with
    | zero => exact absurd HA.out (by simp [thwartref06_Disk_at.l0])
    | succ k1 =>
      have H := HA.out
      clear HA
      simp only [thwartref06_Disk_at.l0] at H
      by_cases c3 : x5_1 < (s0_1.length : Int)
      · rw [if_pos c3] at H
        have c3b0 : decide (x5_1 < (s0_1.length : Int)) = true := decide_eq_true c3
        clear c3
        by_cases c4 : 0 ≤ x5_1
        · rw [if_pos c4] at H
          have c4b0 : decide (0 ≤ x5_1) = true := decide_eq_true c4
          clear c4
          by_cases c5 : ((rd_T53 s0_1 x5_1).f0).toList = a1.toList
          · rw [if_pos c5] at H
            have c5b0 : (((rd_T53 s0_1 x5_1).f0).toList == a1.toList) = true := beq_iff_eq.mpr c5
            have c5b1 : (((rd_T53 s0_1 x5_1).f0).toList != a1.toList) = false := bne_eq_false_iff_eq.mpr c5
            clear c5
            simp only [Option.some.injEq, Prod.mk.injEq] at H
            obtain ⟨rfl, rfl, rfl, rfl⟩ := H
            obtain ⟨ASz6_1, cSz6_1, HGz6, hgz6, HSz6_1⟩ := HI0.out
            have hcz6_0 := cellS56_0 HGz6
            have hcz6_1 := cellS56_1 HGz6
            have hcz6_2 := cellS56_2 HGz6
            have hcz6_3 := cellS56_3 HGz6
            have hfz6_0 := blk_frozen HGz6 0
            have hfz6_2 := blk_frozen HGz6 2
            have hfz6_3 := blk_frozen HGz6 3
            clear HGz6 hgz6
            have p222 : 0 ≤ (x5_1 : Int) := of_decide_eq_true (by first | (with_reducible assumption) | assumption)
            have q222 : x5_1 < (s0_1.length : Int) := of_decide_eq_true (by first | (with_reducible assumption) | assumption)
            obtain ⟨ad222, e222, hx222_0, hx222_1, hx222_2⟩ := at_T53 HSz6_1 x5_1 p222 q222
            cases e222
            replace hx222_0 := pw_cell_below HB.out hx222_0
            replace hx222_1 := pw_cell_below HB.out hx222_1
            replace hx222_2 := pw_cell_below HB.out hx222_2
            replace p222 := eq_true p222
            replace q222 := eq_true q222
            go_wp2
            go_ret
            exact ⟨by first | rfl | (simp [errW_none, errW_some] <;> rfl) | (simp [*, errW_none, errW_some] <;> rfl) | (simp [errW_none, errW_some]; exact isEmpty_bne _), by repeat (first | (with_reducible first | exact HI0.out | apply IsS56.alloc | apply IsS56.drewN | apply IsS56.drew | apply IsS56.set_0 | apply IsS56.set_2 | apply IsS56.set_3) | exact HI0.out), by repeat (first | (with_reducible first | exact HB.out | apply below_alloc | apply pw_below_drewN | apply below_drew1 | refine below_set ?_ (IsS56.ge HI0.out)) | exact HB.out), by repeat (first | (with_reducible first | exact HK.out | apply KeepBut.set_ | apply keep_drewN | apply keep_drew | apply keep_alloc) | exact HK.out)⟩
          · rw [if_neg c5] at H
            have c5b0 : (((rd_T53 s0_1 x5_1).f0).toList == a1.toList) = false := beq_eq_false_iff_ne.mpr c5
            have c5b1 : (((rd_T53 s0_1 x5_1).f0).toList != a1.toList) = true := bne_iff_ne.mpr c5
            have H' := Aside0.mk H
            clear H
            obtain ⟨ASz7_1, cSz7_1, HGz7, hgz7, HSz7_1⟩ := HI0.out
            have hcz7_0 := cellS56_0 HGz7
            have hcz7_1 := cellS56_1 HGz7
            have hcz7_2 := cellS56_2 HGz7
            have hcz7_3 := cellS56_3 HGz7
            have hfz7_0 := blk_frozen HGz7 0
            have hfz7_2 := blk_frozen HGz7 2
            have hfz7_3 := blk_frozen HGz7 3
            clear HGz7 hgz7
            have p222 : 0 ≤ (x5_1 : Int) := of_decide_eq_true (by first | (with_reducible assumption) | assumption)
            have q222 : x5_1 < (s0_1.length : Int) := of_decide_eq_true (by first | (with_reducible assumption) | assumption)
            obtain ⟨ad222, e222, hx222_0, hx222_1, hx222_2⟩ := at_T53 HSz7_1 x5_1 p222 q222
            cases e222
            replace hx222_0 := pw_cell_below HB.out hx222_0
            replace hx222_1 := pw_cell_below HB.out hx222_1
            replace hx222_2 := pw_cell_below HB.out hx222_2
            replace p222 := eq_true p222
            replace q222 := eq_true q222
            go_wp2
            go_roundg k1
            case measure => have := HK1.out; omega
            case rel => exact ⟨(wrap64 (x5_1 + 1)), (by first | rfl | (simp; done) | (simp [*]; done)), H', ⟨by have := HK1.out; omega⟩, ⟨by repeat (first | (with_reducible first | exact HI0.out | apply IsS56.alloc | apply IsS56.drewN | apply IsS56.drew | apply IsS56.set_0 | apply IsS56.set_2 | apply IsS56.set_3) | exact HI0.out)⟩, ⟨by repeat (first | (with_reducible first | exact HK.out | apply KeepBut.set_ | apply keep_drewN | apply keep_drew | apply keep_alloc) | exact HK.out)⟩, ⟨by repeat (first | (with_reducible first | exact HB.out | apply below_alloc | apply pw_below_drewN | apply below_drew1 | refine below_set ?_ (IsS56.ge HI0.out)) | exact HB.out)⟩⟩
        · rw [if_neg c4] at H
          exact absurd H (by simp)
      · rw [if_neg c3] at H
        have c3b0 : decide (x5_1 < (s0_1.length : Int)) = false := decide_eq_false c3
        clear c3
        simp only [Option.some.injEq, Prod.mk.injEq] at H
        obtain ⟨rfl, rfl, rfl, rfl⟩ := H
        obtain ⟨ASz8_1, cSz8_1, HGz8, hgz8, HSz8_1⟩ := HI0.out
        have hcz8_0 := cellS56_0 HGz8
        have hcz8_1 := cellS56_1 HGz8
        have hcz8_2 := cellS56_2 HGz8
        have hcz8_3 := cellS56_3 HGz8
        have hfz8_0 := blk_frozen HGz8 0
        have hfz8_2 := blk_frozen HGz8 2
        have hfz8_3 := blk_frozen HGz8 3
        clear HGz8 hgz8
        go_wp2
        go_ret
        exact ⟨by first | rfl | (simp [errW_none, errW_some] <;> rfl) | (simp [*, errW_none, errW_some] <;> rfl) | (simp [errW_none, errW_some]; exact isEmpty_bne _), by repeat (first | (with_reducible first | exact HI0.out | apply IsS56.alloc | apply IsS56.drewN | apply IsS56.drew | apply IsS56.set_0 | apply IsS56.set_2 | apply IsS56.set_3) | exact HI0.out), by repeat (first | (with_reducible first | exact HB.out | apply below_alloc | apply pw_below_drewN | apply below_drew1 | refine below_set ?_ (IsS56.ge HI0.out)) | exact HB.out), by repeat (first | (with_reducible first | exact HK.out | apply KeepBut.set_ | apply keep_drewN | apply keep_drew | apply keep_alloc) | exact HK.out)⟩

end Go.Proofs.Ytpmnljdhjgjgfaa.Print
