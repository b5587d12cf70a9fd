/- Layer 11: the cache beside other blocks; awake. -/
import Derived.Test.YtoindlghpkjemaaEv11g
namespace Go.Proofs.Ytoindlghpkjemaa.Thw
open Go Go.RowKit Go.Proofs.YtoindlghpkjemaaW.PrintWords Go.Proofs.YtoindlghpkjemaaW.PrintLast Go.Proofs.YtoindlghpkjemaaW.PrintMore
set_option linter.unusedVariables false
set_option linter.unusedSimpArgs false
theorem eqBk (d : Nat) (w : World) (x0 x1 y0 y1 : Int) : (Op.equalIn (d + 2) 54 (.agg #[.int .i64 x0, .int .i64 x1]) (.agg #[.int .i64 y0, .int .i64 y1])).run Try.prog w = .ok (x0 == y0 && (x1 == y1)) w := by
  refine eqA_of Try.underlying54 (by kernel_rfl) ?_
  refine eqf_cons (by rfl) (by go_simp; rfl) (by go_simp; rfl) (by go_simp) ?_
  exact eqf_last (by rfl) (by go_simp; rfl) (by go_simp; rfl) (by go_simp)
theorem eqBkR (x y : Bk) : ∃ r : Bool, (r = decide (x = y)) ∧ ∀ (d : Nat) (w : World), (Op.equalIn (d + 2) 54 (.agg #[.int .i64 x.1, .int .i64 x.2]) (.agg #[.int .i64 y.1, .int .i64 y.2])).run Try.prog w = .ok r w := by
  refine ⟨x.1 == y.1 && (x.2 == y.2), ?_, fun d w => eqBk d w _ _ _ _⟩
  obtain ⟨a, b⟩ := x
  obtain ⟨c, d⟩ := y
  rw [Bool.eq_iff_iff]
  simp only [Bool.and_eq_true, beq_iff_eq, decide_eq_true_eq, Prod.mk.injEq]
/-- The cache holds X; its blocks are among A, all of them old. -/
structure CAt (w : World) (A : Nat → Prop) (p : Nat) (X : Row2) (most : Int) : Prop where
  is : ∃ c l fs, Cch w A p c l fs ∧ c.abs l = X ∧ c.most = most
  old : ∀ k, A k → k < w.heap.size
/-- The blocks behind a call. -/
def nA (A : Nat → Prop) (w w' : World) : Nat → Prop := fun k => gr A w k ∧ k < w'.heap.size
theorem nA_not {A : Nat → Prop} {w w' : World} {k : Nat} (h : ¬ A k) (hk : k < w.heap.size) : ¬ nA A w w' k := fun x => x.1.elim h (fun y => by omega)
theorem nA_lo {A : Nat → Prop} {w w' : World} {N : Nat} (h : ∀ k, A k → N ≤ k) (hN : N ≤ w.heap.size) : ∀ k, nA A w w' k → N ≤ k := fun k hk => hk.1.elim (h k) (fun x => Nat.le_trans hN x)
theorem CAt.below {w w' : World} {A : Nat → Prop} {p : Nat} {X : Row2} {most : Int} (h : CAt w A p X most) (hb : Below w.heap.size w w') : CAt w' A p X most := by
  obtain ⟨⟨c, l, fs, h1, h2, h3⟩, h4⟩ := h
  exact ⟨⟨c, l, fs, h1.below hb, h2, h3⟩, fun k hk => Nat.lt_of_lt_of_le (h4 k hk) hb.size⟩
theorem CAt.frm {w w' : World} {A S : Nat → Prop} {p : Nat} {X : Row2} {most : Int} (h : CAt w A p X most) (hf : Frm S w w') (hn : ∀ k, k < w.heap.size → A k → ¬ S k) : CAt w' A p X most := by
  obtain ⟨⟨c, l, fs, h1, h2, h3⟩, h4⟩ := h
  exact ⟨⟨c, l, fs, h1.frm hf hn, h2, h3⟩, fun k hk => Nat.lt_of_lt_of_le (h4 k hk) hf.size⟩
theorem CAt.alloc {w : World} {A : Nat → Prop} {p : Nat} {X : Row2} {most : Int} (h : CAt w A p X most) (o : Obj) : CAt (w.alloc o) A p X most := h.frm (S := None') ((Frm.refl _ w).alloc o) (fun _ _ _ x => x)
theorem CAt.drew {w : World} {A : Nat → Prop} {p : Nat} {X : Row2} {most : Int} (h : CAt w A p X most) : CAt w.drew A p X most := h.frm (S := None') (Frm.refl _ w).drew (fun _ _ _ x => x)
theorem CAt.lim {w : World} {A : Nat → Prop} {p : Nat} {X : Row2} {most : Int} (h : CAt w A p X most) : 1 ≤ most ∧ most ≤ 64 ∧ (keysOf X).Nodup ∧ X.length ≤ 64 ∧ (∀ q ∈ X, BkOk q.1) ∧ (X.length : Int) ≤ most := by
  obtain ⟨⟨c, l, fs, h1, rfl, rfl⟩, h4⟩ := h
  have h5 := h1.ok.len
  have h6 : (c.abs l).length = l.length := by simp [Lc.abs]
  exact ⟨h1.ok.most.1, h1.ok.most.2, h1.ok.keys, by rw [h6]; exact h1.ok.short, h1.keys, by rw [h6]; omega⟩
def CPost (v : Value) (w : World) (A : Nat → Prop) (p : Nat) (X : Row2) (most : Int) (e : Ending) (w' : World) : Prop := e = .returned v ∧ CAt w' (nA A w w') p X most ∧ Frm A w w'
theorem cat_of {w w' : World} {A : Nat → Prop} {p : Nat} {c : Lc} {l fs : List Nat} {X : Row2} {most : Int} (h : Cch w' (gr A w) p c l fs) (h1 : c.abs l = X) (h2 : c.most = most) : CAt w' (nA A w w') p X most :=
  ⟨⟨c, l, fs, h.mono fun k hk hA => ⟨hA, hk⟩, h1, h2⟩, fun k hk => hk.2⟩
section
variable {w : World} {A : Nat → Prop} {p : Nat} {X : Row2} {most : Int} (h : CAt w A p X most)
include h
theorem cat_Get (b : Bk) (hb : BkOk b) : Calls Try.prog 26 #[.pointer (some ⟨p, 0, none⟩), bkV b] w (CPost (.tuple #[.string ((look X b).getD ⟨#[]⟩), .bool (look X b).isSome]) w A p (getD2 X b) most) := by
  obtain ⟨⟨c, l, fs, h1, rfl, rfl⟩, h4⟩ := h
  refine (lru_Get.calls w A p c l fs h1 b hb).mono ?_
  rintro e w' ⟨c', l', fs', he, h5, h6, h7, h8⟩
  exact ⟨he, cat_of (h5.mono fun k _ hk => Or.inl hk) h6 h7, h8⟩
theorem cat_Put (b : Bk) (hb : BkOk b) (s : ByteArray) : Calls Try.prog 28 #[.pointer (some ⟨p, 0, none⟩), bkV b, .string s] w (CPost (.tuple #[]) w A p (putD X most b s) most) := by
  obtain ⟨⟨c, l, fs, h1, rfl, rfl⟩, h4⟩ := h
  refine (lru_Put.calls w A p c l fs h1 h4 b hb s).mono ?_
  rintro e w' ⟨c', l', fs', he, h5, h6, h7, h8⟩
  exact ⟨he, cat_of h5 h6 h7, h8⟩
theorem cat_Drop (seg : Int) : Calls Try.prog 30 #[.pointer (some ⟨p, 0, none⟩), .int .i64 seg] w (CPost (.int .i64 ((X.length : Int) - (dropD X seg).length)) w A p (dropD X seg) most) := by
  obtain ⟨⟨c, l, fs, h1, rfl, rfl⟩, h4⟩ := h
  refine (lru_Drop.calls w A p c l fs h1 h4 seg).mono ?_
  rintro e w' ⟨c', l', fs', he, h5, h6, h7, h8⟩
  exact ⟨he, cat_of h5 h6 h7, h8⟩
theorem cat_Blocks : Calls Try.prog 33 #[.pointer (some ⟨p, 0, none⟩)] w (BlkPost w (keysOf X)) := by
  obtain ⟨⟨c, l, fs, h1, rfl, rfl⟩, h4⟩ := h
  rw [keys_blks]
  exact lru_Blocks.calls w A p c l fs h1
end
def NewPostC (most : Int) (w : World) (e : Ending) (w' : World) : Prop :=
  (¬ (1 ≤ most ∧ most ≤ 64) ∧ e = .returned (.tuple #[.pointer none, .int .i64 1]) ∧ w = w') ∨
  ((1 ≤ most ∧ most ≤ 64) ∧ ∃ p, e = .returned (.tuple #[.pointer (some ⟨p, 0, none⟩), .int .i64 0]) ∧ CAt w' (fun k => w.heap.size ≤ k ∧ k < w'.heap.size) p [] most ∧ Below w.heap.size w w')
theorem cat_New (most : Int) (w : World) : Calls Try.prog 24 #[.int .i64 most] w (NewPostC most w) := by
  refine (lru_New.calls w most).mono ?_
  rintro e w' (⟨h1, h2, h3⟩ | ⟨h1, p, c, l, fs, he, h5, h6, h7, h8⟩)
  · exact Or.inl ⟨h1, h2, h3⟩
  · exact Or.inr ⟨h1, p, he, ⟨⟨c, l, fs, h5.mono fun k hk hA => ⟨hA, hk⟩, h6, h7⟩, fun k hk => hk.2⟩, h8⟩
abbrev xB : ByteArray := ⟨#[120]⟩
abbrev yB : ByteArray := ⟨#[121]⟩
def X1 : Row2 := [((1, 2), xB)]
def X2 : Row2 := [((0, 0), yB)]
theorem ok12 : BkOk ((1, 2) : Bk) := by constructor <;> decide
theorem ok00 : BkOk ((0, 0) : Bk) := by constructor <;> decide
set_option maxHeartbeats 6400000 in
set_option maxRecDepth 100000 in
theorem awake11.calls (w : World) : Calls Try.prog 23 #[] w fun e w' => e = .returned (.bool true) ∧ Below w.heap.size w w' := by
  have E1 := Aside0.mk (show putD [] 1 (1, 2) xB = X1 by decide +kernel)
  have E2 := Aside0.mk (show putD X1 1 (0, 0) yB = X2 by decide +kernel)
  have G1 := Aside0.mk (show getD2 X1 (1, 2) = X1 by decide +kernel)
  have G2 := Aside0.mk (show getD2 X2 (1, 2) = X2 by decide +kernel)
  have K1 := Aside0.mk (show look X1 (1, 2) = some xB by decide +kernel)
  have K2 := Aside0.mk (show look X2 (1, 2) = none by decide +kernel)
  have D2 := Aside0.mk (show ((X2.length : Int) - (dropD X2 0).length) = 1 by decide +kernel)
  go_enter Try.func23, Try.ntmps23
  go_wp2_with fail
  refine (cat_New 1 w).mono ?_
  rintro e w1 (⟨h1, _, _⟩ | ⟨_, p, rfl, h1, b1⟩)
  · omega
  have H1 := Aside0.mk (h1.alloc (.cells #[.int .i64 1, .int .i64 2] 54))
  have B1 := Aside0.mk (b1.alloc b1.size (.cells #[.int .i64 1, .int .i64 2] 54))
  have hx := blk_new w1 (.cells #[.int .i64 1, .int .i64 2] 54)
  have Z1 := Aside0.mk b1.size
  obtain ⟨d0, d1, dr⟩ := cells2' hx
  have X1' := Aside0.mk hx
  clear h1 b1 hx
  go_wp2_with fail
  refine (cat_Put H1.out (1, 2) ok12 xB).mono ?_
  rintro e w2 ⟨rfl, h2, f2⟩
  rw [E1.out] at h2
  have n2 : ¬ nA (fun k => w.heap.size ≤ k ∧ k < w1.heap.size) (w1.alloc (.cells #[.int .i64 1, .int .i64 2] 54)) w2 w1.heap.size := nA_not (fun x => by omega) (by simp)
  have hx2 := f2.keeps X1'.out (fun x => by omega)
  have B2 := Aside0.mk (B1.out.trans (f2.below B1.out.size (fun k _ hk => hk.1)))
  have H2 := Aside0.mk h2
  have X2' := Aside0.mk hx2
  have F2 := Aside0.mk f2
  clear d0 d1 dr
  obtain ⟨d0, d1, dr⟩ := cells2' hx2
  clear h2 hx2 f2
  go_wp2_with fail
  refine (cat_Get H2.out (1, 2) ok12).mono ?_
  rintro e w3 ⟨rfl, h3, f3⟩
  rw [G1.out] at h3
  rw [K1.out]
  simp only [Option.getD_some, Option.isSome_some]
  have n3 := nA_not (w' := w3) n2 (blk_lt X2'.out)
  have hx3 := f3.keeps X2'.out n2
  have B3 := Aside0.mk (B2.out.trans (f3.below B2.out.size (fun k _ hk => hk.1.elim (fun h => h.1) (fun h => Nat.le_trans B1.out.size h))))
  have H3 := Aside0.mk h3
  have X3' := Aside0.mk hx3
  have F3 := Aside0.mk f3
  clear d0 d1 dr
  obtain ⟨d0, d1, dr⟩ := cells2' hx3
  clear h3 hx3 f3
  go_wp2_with fail
  refine (cat_Put H3.out (0, 0) ok00 yB).mono ?_
  rintro e w4 ⟨rfl, h4, f4⟩
  rw [E2.out] at h4
  have n4 := nA_not (w' := w4) n3 (blk_lt X3'.out)
  have hx4 := f4.keeps X3'.out n3
  have l2 : ∀ k, nA (fun k => w.heap.size ≤ k ∧ k < w1.heap.size) (w1.alloc (.cells #[.int .i64 1, .int .i64 2] 54)) w2 k → w.heap.size ≤ k := nA_lo (fun k hk => hk.1) B1.out.size
  have l3 := nA_lo (w' := w3) l2 B2.out.size
  have B4 := Aside0.mk (B3.out.trans (f4.below B3.out.size (fun k _ hk => l3 k hk)))
  have l4 := nA_lo (w' := w4) l3 B3.out.size
  have H4 := Aside0.mk h4
  have X4' := Aside0.mk hx4
  have L4 := Aside0.mk l4
  clear d0 d1 dr
  obtain ⟨d0, d1, dr⟩ := cells2' hx4
  clear h4 hx4 f4 l2 l3 l4
  go_wp2_with fail
  refine (cat_Get H4.out (1, 2) ok12).mono ?_
  rintro e w5 ⟨rfl, h5, f5⟩
  rw [G2.out] at h5
  rw [K2.out]
  simp only [Option.getD_none, Option.isSome_none]
  have B5 := Aside0.mk (B4.out.trans (f5.below B4.out.size (fun k _ hk => L4.out k hk)))
  have L5 := Aside0.mk (nA_lo (w' := w5) L4.out B4.out.size)
  have H5 := Aside0.mk h5
  clear h5 f5 d0 d1 dr
  go_wp2_with fail
  refine (cat_Blocks H5.out).mono ?_
  rintro e w6 ⟨v, rfl, hR, hB⟩
  obtain ⟨A6, c6, rfl, _⟩ := Kd.R_reads hR
  have E6 : (keysOf X2).length = 1 := rfl
  rw [E6]
  have H6 := Aside0.mk (H5.out.below hB)
  have B6 := Aside0.mk (B5.out.trans (hB.mono B5.out.size))
  clear hR hB E6
  go_wp2_with fail
  refine (cat_Drop H6.out 0).mono ?_
  rintro e w7 ⟨rfl, h7, f7⟩
  rw [D2.out]
  have B7 := Aside0.mk (B6.out.trans (f7.below B6.out.size (fun k _ hk => L5.out k hk)))
  clear h7 f7
  go_wp2_with fail
  go_ret
  exact ⟨rfl, B7.out⟩
end Go.Proofs.Ytoindlghpkjemaa.Thw
