/- Layer 6: the document's disk in memory; its reading methods, New, burn, Fuse, Remove. -/
import Derived.Test.YtpmnljdhjgjgfaaEv06W
namespace Go.Proofs.Ytpmnljdhjgjgfaa.Thw
open Go Go.RowKit Go.Maps Go.Proofs.YtpmnljdhjgjgfaaW.PrintWords Go.Proofs.YtpmnljdhjgjgfaaW.PrintLast Go.Proofs.YtpmnljdhjgjgfaaW.PrintMore
attribute [local go_sem] max2_int min2_int max_two min_two
set_option linter.unusedVariables false
set_option linter.unusedSimpArgs false
abbrev kF : Kd RFile := Go.Proofs.Ytpmnljdhjgjgfaa.Ref.k53
/-- The document's disk at block g of w: it says what st says. -/
def RfAt (w : World) (A : Nat → Prop) (g : Nat) (st : Dsk) : Prop :=
  A g ∧ ∃ v, w.heap[g]? = some (.cells #[.int .i64 st.room, v, .int .i64 st.fuse, .bool st.down] 56) ∧ kF.R 53 w 0 A v (refL st.m)
section
variable {w w' : World} {A A' S : Nat → Prop} {g : Nat} {st : Dsk}
theorem RfAt.lt (h : RfAt w A g st) : g < w.heap.size := by obtain ⟨_, v, hb, _⟩ := h; exact blk_lt hb
theorem RfAt.bound (h : RfAt w A g st) : RfAt w (fun k => A k ∧ k < w.heap.size) g st := by
  have hl := h.lt
  obtain ⟨a, v, hb, hR⟩ := h
  exact ⟨⟨a, hl⟩, v, hb, Kd.R_mono (Kd.R_bound hR) fun k hk => ⟨hk.1, hk.2.2.1⟩⟩
theorem RfAt.mono (h : RfAt w A g st) (hA : ∀ k, k < w.heap.size → A k → A' k) : RfAt w A' g st := by
  have h2 := h.bound
  obtain ⟨a, v, hb, hR⟩ := h2
  exact ⟨hA _ a.2 a.1, v, hb, Kd.R_mono hR fun k hk => hA k hk.2 hk.1⟩
theorem Frm.kept (hf : Frm S w w') : Kept w w' S := ⟨hf.size, hf.block⟩
theorem RfAt.frm (h : RfAt w A g st) (hf : Frm S w w') (hn : ∀ k, k < w.heap.size → A k → ¬ S k) : RfAt w' A g st := by
  have h2 := h.bound
  obtain ⟨a, v, hb, hR⟩ := h2
  exact ⟨a.1, v, hf.keeps hb (hn _ a.2 a.1), Kd.R_mono (Kd.R_kept hR hf.kept fun k hk => hn k hk.2 hk.1) fun k hk => hk.1⟩
theorem RfAt.below (h : RfAt w A g st) (hb : Below w.heap.size w w') : RfAt w' A g st := h.frm (S := None') (Frm.of_new hb) (fun _ _ _ x => x)
theorem RfAt.alloc (h : RfAt w A g st) (o : Obj) : RfAt (w.alloc o) A g st := h.frm (S := None') ((Frm.refl _ w).alloc o) (fun _ _ _ x => x)
theorem RfAt.drew (h : RfAt w A g st) : RfAt w.drew A g st := h.frm (S := None') (Frm.refl _ w).drew (fun _ _ _ x => x)
/-- The row is none of the state's own block. -/
theorem RfAt.row_ne {v : Value} {cs : Array Value} (hb : w.heap[g]? = some (.cells cs 56)) (hR : kF.R 53 w 0 A v (refL st.m)) : kF.R 53 w 0 (fun k => A k ∧ k ≠ g) v (refL st.m) :=
  Kd.R_types hR hb (by decide)
end
theorem RfAt.is {w : World} {A : Nat → Prop} {g : Nat} {st : Dsk} (h : RfAt w A g st) : Ref.IsS56 w w g st.room (refL st.m) st.fuse st.down := by
  obtain ⟨a, v, hb, hR⟩ := h
  obtain ⟨A2, c, rfl, hc, hC⟩ := Kd.R_reads hR
  exact ⟨A2, c, hb, trivial, hC⟩
section
variable (w : World) (A : Nat → Prop) (g : Nat) (st : Dsk) (h : RfAt w A g st) (hl : st.m.length ≤ 1000000)
include h hl
theorem ref_at.calls (k : ByteArray) : Calls Try.prog 44 #[.pointer (some ⟨g, 0, none⟩), .string k] w fun e w' => e = .returned (.int .i64 (atR (refL st.m) k)) ∧ Below w.heap.size w w' := by
  refine (Ref.thwartref06_Disk_at.calls _ g _ _ _ _ k _ _ _ _ w w h.is (Below.refl _ _) (at_f _ (by rw [refL_length]; exact hl) k _ _ _)).mono ?_
  rintro e w' ⟨rfl, _, hB, _⟩
  exact ⟨rfl, hB⟩
theorem ref_without.calls (k : ByteArray) : Calls Try.prog 46 #[.pointer (some ⟨g, 0, none⟩), .string k] w fun e w' => ∃ v, e = .returned v ∧ kF.R 53 w' w.heap.size (fun _ => True) v (wo (refL st.m) k) ∧ Below w.heap.size w w' := by
  refine (Ref.thwartref06_Disk_without.calls _ g _ _ _ _ k _ _ _ _ w w h.is (Below.refl _ _) (wo_f _ (by rw [refL_length]; exact hl) k _ _ _)).mono ?_
  rintro e w' ⟨v, rfl, hR, _, hB, _⟩
  exact ⟨v, rfl, hR, hB⟩
theorem ref_List.calls : Calls Try.prog 28 #[.pointer (some ⟨g, 0, none⟩)] w fun e w' => ∃ v, e = .returned v ∧ Kd.string.R 9 w' w.heap.size (fun _ => True) v (names st.m) ∧ Below w.heap.size w w' := by
  refine (Ref.thwartref06_Disk_List.calls _ g _ _ _ _ _ _ _ _ w w h.is (Below.refl _ _) (lst_f _ (by rw [refL_length]; exact hl) _ _ _)).mono ?_
  rintro e w' ⟨v, rfl, hR, _, hB, _⟩
  rw [refL_names] at hR
  exact ⟨v, rfl, hR, hB⟩
theorem ref_Left.calls (hn : (st.m.map (·.1)).Nodup) (hr : st.room ≤ 1048576) (ht : total st.m ≤ st.room) : Calls Try.prog 31 #[.pointer (some ⟨g, 0, none⟩)] w fun e w' => e = .returned (.int .i64 (st.room - total st.m)) ∧ Below w.heap.size w w' := by
  refine (Ref.thwartref06_Disk_Left.calls _ g _ _ _ _ _ _ _ _ w w h.is (Below.refl _ _) (left_f _ (by rw [refL_length]; exact hl) _ _ _ hr (by rw [bytes_refL hn]; omega))).mono ?_
  rintro e w' ⟨rfl, _, hB, _⟩
  rw [bytes_refL hn]
  exact ⟨rfl, hB⟩
theorem ref_Size.calls (hn : (st.m.map (·.1)).Nodup) (k : ByteArray) : Calls Try.prog 32 #[.pointer (some ⟨g, 0, none⟩), .string k] w fun e w' => e = .returned (.tuple #[.int .i64 (st.size k).1, .int .i64 (st.size k).2]) ∧ Below w.heap.size w w' := by
  refine (Ref.thwartref06_Disk_Size.calls _ g _ _ _ _ k _ _ _ _ _ w w h.is (Below.refl _ _) (size_f hn hl _ _ _ k)).mono ?_
  rintro e w' ⟨rfl, _, hB, _⟩
  exact ⟨rfl, hB⟩
theorem ref_Read.calls (hn : (st.m.map (·.1)).Nodup) (hg : ∀ p ∈ st.m, p.2.b.size ≤ 9223372036854775807) (k : ByteArray) (off n : Int) : Calls Try.prog 30 #[.pointer (some ⟨g, 0, none⟩), .string k, .int .i64 off, .int .i64 n] w fun e w' => e = .returned (.tuple #[.string (st.read k off n).1, .int .i64 (st.read k off n).2]) ∧ Below w.heap.size w w' := by
  refine (Ref.thwartref06_Disk_Read.calls _ g _ _ _ _ k off n _ _ _ _ _ w w h.is (Below.refl _ _) (read_f hn hl hg _ _ _ k off n)).mono ?_
  rintro e w' ⟨rfl, _, hB, _⟩
  exact ⟨rfl, hB⟩
end
theorem ref_with.calls (w : World) (A0 : Option Addr) (c0 : Nat) (L : List RFile) (hC : kF.C w A0 L.length L) (hc : L.length ≤ c0) (hl : L.length ≤ 1000000) (x : RFile) : Calls Try.prog 45 #[.slice A0 L.length c0, .agg #[.string x.f0, .string x.f1, .int .i64 x.f2]] w fun e w' => ∃ v, e = .returned v ∧ kF.R 53 w' w.heap.size (fun _ => True) v (wi L x) ∧ Below w.heap.size w w' :=
  Ref.thwartref06_with.calls _ A0 c0 L _ _ _ _ w hC hc (wi_f L hl x)
theorem ref_Strings.calls (w : World) (A0 A1 : Option Addr) (c0 c1 : Nat) (L : List ByteArray) (h0 : Kd.string.C w A0 L.length L) (hc0 : L.length ≤ c0) (h1 : Kd.string.C w A1 L.length L) (hc1 : L.length ≤ c1) (hl : L.length ≤ 1000000) : Calls Try.prog 27 #[.slice A0 L.length c0, .slice A1 L.length c1] w fun e w' => e = .returned (.bool true) ∧ Below w.heap.size w w' := by
  refine (Ref.thwartref06_Strings.calls _ A0 c0 L A1 c1 L _ w h0 hc0 h1 hc1 (str_f L hl)).mono ?_
  rintro e w' ⟨rfl, hd⟩
  exact ⟨rfl, hd.below⟩
theorem ref_right.calls (s : ByteArray) (w : World) : Calls Try.prog 42 #[.string s] w fun e w' => e = .returned (.bool (right s)) ∧ Below w.heap.size w w' := by
  have hr : Ref.thwartref06_right.f s = some (right s) := by
    unfold Ref.thwartref06_right.f right
    have e : s.toList = s.data.toList := Lib.toList_data s
    have es : s.size = s.data.toList.length := Array.length_toList.symm
    rw [e]
    cases hd : s.data.toList with
    | nil => rw [hd, List.length_nil] at es; rw [if_neg (by omega)]; rfl
    | cons x l => rw [hd, List.length_cons] at es; rw [if_pos (by omega)]; simp
  refine (Ref.thwartref06_right.calls s _ w hr).mono ?_
  rintro e w' ⟨rfl, hd⟩
  exact ⟨rfl, hd.below⟩
set_option maxHeartbeats 1600000 in
set_option maxRecDepth 100000 in
theorem ref_burn.calls (w : World) (A : Nat → Prop) (g : Nat) (st : Dsk) (h : RfAt w A g st) (hf : -1 ≤ st.fuse ∧ st.fuse ≤ 9223372036854775807) :
    Calls Try.prog 43 #[.pointer (some ⟨g, 0, none⟩)] w fun e w' => e = .returned (.bool (st.burn.2 == 0)) ∧ RfAt w' A g st.burn.1 ∧ Frm A w w' := by
  obtain ⟨a, v, hb, hR⟩ := h
  obtain ⟨room, m, fuse, down⟩ := st
  have HR := Aside0.mk (RfAt.row_ne hb hR)
  have HB := Aside0.mk hb
  obtain ⟨c0, c1, c2, c3, fr⟩ := cells4 hb
  clear hb hR
  have hne : ∀ (i : Nat) (x : Value), kF.R 53 (w.setCell ⟨g, i, none⟩ x) 0 A v (refL m) := fun i x =>
    Kd.R_mono (Kd.R_kept HR.out ((Frm.refl (fun k => k = g) w).setCell (p := ⟨g, i, none⟩) (Or.inl rfl) x).kept fun k hk => hk.2) fun k hk => hk.1
  have HN := Aside0.mk hne
  clear hne
  cases down with
  | true =>
    go_enter Try.func43, Try.ntmps43
    go_wp2_with fail
    go_ret
    exact ⟨by simp [Dsk.burn], ⟨a, v, by simpa [Dsk.burn] using blk_set HB.out 3 (.bool true), HN.out 3 _⟩, (Frm.refl _ _).setCell (Or.inl a) _⟩
  | false =>
    by_cases hz : fuse = 0
    · subst hz
      go_enter Try.func43, Try.ntmps43
      go_wp2_with fail
      go_ret
      exact ⟨by simp [Dsk.burn], ⟨a, v, by simpa [Dsk.burn] using blk_set HB.out 3 (.bool true), HN.out 3 _⟩, (Frm.refl _ _).setCell (Or.inl a) _⟩
    · have hz1 : (fuse == 0) = false := beq_eq_false_iff_ne.2 hz
      by_cases hp : 0 < fuse
      · have d1 : decide (0 < fuse) = true := decide_eq_true hp
        have hw : IntKind.i64.wrap (fuse - 1) = fuse - 1 := IntWalk.i64_in _ (by simp only at hf; omega)
        have hmx : mx (wrap64 (fuse - 1)) (-1) = fuse - 1 := by rw [w64 (by simp only at hf; omega)]; unfold mx; rw [if_neg (by omega)]
        have e1 := Aside0.mk (show Dsk.burn ⟨room, m, fuse, false⟩ = (⟨room, m, fuse - 1, false⟩, 0) by simp [Dsk.burn, hz, hmx])
        clear hz hmx
        go_enter Try.func43, Try.ntmps43
        go_wp2_with fail
        go_ret
        rw [e1.out]
        exact ⟨rfl, ⟨a, v, by simpa using blk_set HB.out 2 (.int .i64 (fuse - 1)), HN.out 2 _⟩, (Frm.refl _ _).setCell (Or.inl a) _⟩
      · have d1 : decide (0 < fuse) = false := decide_eq_false hp
        have hfm : fuse = -1 := by simp only at hf; omega
        subst hfm
        have hmx : mx (wrap64 (-2)) (-1) = -1 := by kernel_rfl
        have e1 := Aside0.mk (show Dsk.burn ⟨room, m, -1, false⟩ = (⟨room, m, -1, false⟩, 0) by simp [Dsk.burn, hmx])
        clear hz hmx
        go_enter Try.func43, Try.ntmps43
        go_wp2_with fail
        go_ret
        rw [e1.out]
        exact ⟨rfl, ⟨a, v, HB.out, Kd.R_mono HR.out fun k hk => hk.1⟩, Frm.refl _ _⟩
set_option maxHeartbeats 1600000 in
set_option maxRecDepth 100000 in
theorem ref_Fuse.calls (w : World) (A : Nat → Prop) (g : Nat) (st : Dsk) (h : RfAt w A g st) (n : Int) :
    Calls Try.prog 25 #[.pointer (some ⟨g, 0, none⟩), .int .i64 n] w fun e w' => e = .returned (.tuple #[]) ∧ RfAt w' A g { st with fuse := mx n (-1) } ∧ Frm A w w' := by
  obtain ⟨a, v, hb, hR⟩ := h
  have HR := Aside0.mk (RfAt.row_ne hb hR)
  have HB := Aside0.mk hb
  obtain ⟨c0, c1, c2, c3, fr⟩ := cells4 hb
  obtain ⟨z, hzz⟩ : ∃ z, mx n (-1) = z := ⟨_, rfl⟩
  have hz2 : (if n < -1 then -1 else n) = z := hzz
  have HZ := Aside0.mk hzz
  clear hb hR hzz
  go_enter Try.func25, Try.ntmps25
  go_wp2_with fail
  go_end0
  rw [HZ.out]
  exact ⟨rfl, ⟨a, v, by simpa using blk_set HB.out 2 (.int .i64 z), Kd.R_mono (Kd.R_kept HR.out ((Frm.refl (fun k => k = g) w).setCell (p := ⟨g, 2, none⟩) (Or.inl rfl) _).kept fun k hk => hk.2) fun k hk => hk.1⟩, (Frm.refl _ _).setCell (Or.inl a) _⟩
def RefNewPost (room : Int) (w : World) (e : Ending) (w' : World) : Prop :=
  ((room < 0 ∨ 1048576 < room) ∧ e = .returned (.tuple #[.pointer none, .int .i64 1]) ∧ w = w') ∨
  ((0 ≤ room ∧ room ≤ 1048576) ∧ ∃ d, e = .returned (.tuple #[.pointer (some ⟨d, 0, none⟩), .int .i64 0]) ∧ RfAt w' (fun k => w.heap.size ≤ k) d (Dsk.new room) ∧ Below w.heap.size w w')
set_option maxHeartbeats 1600000 in
set_option maxRecDepth 100000 in
theorem ref_New.calls (room : Int) (w : World) : Calls Try.prog 18 #[.int .i64 room] w (RefNewPost room w) := by
  by_cases h1 : room < 0
  · go_enter Try.func18, Try.ntmps18
    go_wp2_with fail
    go_ret2
    exact Or.inl ⟨Or.inl h1, rfl, rfl⟩
  · have d1 : decide (room < 0) = false := decide_eq_false h1
    by_cases h2 : 1048576 < room
    · have d2 : decide (1048576 < room) = true := decide_eq_true h2
      go_enter Try.func18, Try.ntmps18
      go_wp2_with fail
      go_ret2
      exact Or.inl ⟨Or.inr h2, rfl, rfl⟩
    · have d2 : decide (1048576 < room) = false := decide_eq_false h2
      have H1 := Aside0.mk (Int.not_lt.1 h1)
      have H2 := Aside0.mk (Int.not_lt.1 h2)
      clear h1 h2
      go_enter Try.func18, Try.ntmps18
      go_wp2_with fail
      go_ret2
      exact Or.inr ⟨⟨H1.out, H2.out⟩, _, rfl, ⟨Nat.le_refl _, _, blk_new _ _, by rw [show refL (Dsk.new room).m = [] by simp [refL, names, sorted, Dsk.new]]; exact Kd.R_nil _ _ _ _ _⟩, (Below.refl _ _).alloc (Nat.le_refl _) _⟩
end Go.Proofs.Ytpmnljdhjgjgfaa.Thw
