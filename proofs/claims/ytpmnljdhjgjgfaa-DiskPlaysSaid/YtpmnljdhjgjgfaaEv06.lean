/- Layer 6: the disk in memory, and what its calls do to it. -/
import Derived.Test.YtpmnljdhjgjgfaaHead
namespace Go.Proofs.Ytpmnljdhjgjgfaa.Thw
open Go Go.RowKit Go.Proofs.YtpmnljdhjgjgfaaW.PrintWords Go.Proofs.YtpmnljdhjgjgfaaW.PrintLast Go.Proofs.YtpmnljdhjgjgfaaW.PrintMore
attribute [local go_sem] max2_int min2_int max_two min_two
set_option linter.unusedVariables false
set_option linter.unusedSimpArgs false

/-- A set of blocks, and all that is new. -/
def gr (A : Nat → Prop) (w : World) : Nat → Prop := fun k => A k ∨ w.heap.size ≤ k
theorem gr_mono {A : Nat → Prop} {w W : World} (hz : w.heap.size ≤ W.heap.size) : ∀ k, gr A W k → gr A w k := fun k hk => hk.imp id (fun h => Nat.le_trans hz h)
theorem cells1 {w : World} {s : Nat} {v0 : Value} {t : TypeId} (h : w.heap[s]? = some (.cells #[v0] t)) : w.cell? ⟨s, 0, none⟩ = some v0 ∧ w.frozen? ⟨s, 0, none⟩ = false := by
  refine ⟨?_, ?_⟩ <;> simp [World.cell?, World.frozen?, h]
theorem cells2 {w : World} {s : Nat} {v0 v1 : Value} {t : TypeId} (h : w.heap[s]? = some (.cells #[v0, v1] t)) : w.cell? ⟨s, 0, none⟩ = some v0 ∧ w.cell? ⟨s, 1, none⟩ = some v1 ∧ ∀ i, w.frozen? ⟨s, i, none⟩ = false := by
  refine ⟨?_, ?_, fun i => ?_⟩ <;> simp [World.cell?, World.frozen?, h]
theorem cells4 {w : World} {s : Nat} {v0 v1 v2 v3 : Value} {t : TypeId} (h : w.heap[s]? = some (.cells #[v0, v1, v2, v3] t)) :
    w.cell? ⟨s, 0, none⟩ = some v0 ∧ w.cell? ⟨s, 1, none⟩ = some v1 ∧ w.cell? ⟨s, 2, none⟩ = some v2 ∧ w.cell? ⟨s, 3, none⟩ = some v3 ∧ ∀ i, w.frozen? ⟨s, i, none⟩ = false := by
  refine ⟨?_, ?_, ?_, ?_, fun i => ?_⟩ <;> simp [World.cell?, World.frozen?, h]
structure DFile where
  b : ByteArray
  sure : Int
structure Dsk where
  room : Int
  m : List (ByteArray × DFile)
  fuse : Int
  down : Bool
def fileV (f : DFile) : Value := .agg #[.string f.b, .int .i64 f.sure]
def DskAt (w : World) (A : Nat → Prop) (d : Nat) (st : Dsk) : Prop :=
  ∃ mb, A d ∧ A mb ∧ w.heap[d]? = some (.cells #[.int .i64 st.room, .map (some mb), .int .i64 st.fuse, .bool st.down] 60) ∧ MapOf Try.prog 9 Value.string fileV w mb st.m
section
variable {w w' : World} {A A' S : Nat → Prop} {d : Nat} {st : Dsk}
theorem DskAt.mono (h : DskAt w A d st) (hA : ∀ k, k < w.heap.size → A k → A' k) : DskAt w A' d st := by
  obtain ⟨mb, a1, a2, hb, hm⟩ := h
  exact ⟨mb, hA _ (blk_lt hb) a1, hA _ hm.lt a2, hb, hm⟩
theorem DskAt.frm (h : DskAt w A d st) (hf : Frm S w w') (hn : ∀ k, A k → ¬ S k) : DskAt w' A d st := by
  obtain ⟨mb, a1, a2, hb, hm⟩ := h
  exact ⟨mb, a1, a2, hf.keeps hb (hn _ a1), hm.frm hf (hn _ a2)⟩
theorem DskAt.alloc (h : DskAt w A d st) (o : Obj) : DskAt (w.alloc o) A d st := h.frm (S := None') ((Frm.refl _ w).alloc o) (fun _ _ x => x)
theorem DskAt.drew (h : DskAt w A d st) : DskAt w.drew A d st := h.frm (S := None') (Frm.refl _ w).drew (fun _ _ x => x)
theorem DskAt.below (h : DskAt w A d st) (hb : Below w.heap.size w w') : DskAt w' A d st := h.frm (S := None') (Frm.of_new hb) (fun _ _ x => x)
theorem DskAt.lt (h : DskAt w A d st) : d < w.heap.size := by
  obtain ⟨mb, a1, a2, hb, hm⟩ := h
  exact blk_lt hb
theorem DskAt.bound (h : DskAt w A d st) : DskAt w (fun k => A k ∧ k < w.heap.size) d st := h.mono fun _ hk ha => ⟨ha, hk⟩
end
theorem strOk {s : ByteArray} (h : s.size ≤ 9223372036854775807) : ∃ l, keyOf Try.prog 9 (.string s) = some l := ⟨_, Go.WideMaps.keyOf_string_mk Try.underlying9 (by unfold maxLen; omega)⟩
theorem strInj (a b : ByteArray) (h : Value.string a = Value.string b) : a = b := by injection h
theorem strKeyed : Go.Maps.Keyed Try.prog 9 := Go.Maps.string_keyed Try.underlying9
theorem zeroFile (w : World) : (zeroValue 64).run Try.prog w = .ok (fileV ⟨⟨#[]⟩, 0⟩) w := by kernel_rfl

def Dsk.burn (st : Dsk) : Dsk × Int := if (st.down || st.fuse == 0) = true then ({ st with down := true }, 8) else ({ st with fuse := mx (wrap64 (st.fuse - 1)) (-1), down := false }, 0)
set_option maxHeartbeats 1600000 in
set_option maxRecDepth 100000 in
theorem disk_burn.calls (w : World) (A : Nat → Prop) (d : Nat) (st : Dsk) (h : DskAt w A d st) :
    Calls Try.prog 34 #[.pointer (some ⟨d, 0, none⟩)] w fun e w' => e = .returned (.int .i64 st.burn.2) ∧ DskAt w' A d st.burn.1 ∧ Frm A w w' := by
  obtain ⟨mb, a1, a2, hb, hm⟩ := h
  obtain ⟨room, m, fuse, down⟩ := st
  have HB := Aside0.mk hb
  have HM := Aside0.mk hm
  obtain ⟨c0, c1, c2, c3, fr⟩ := cells4 hb
  clear hb hm
  have hne := MapOf.ne HM.out HB.out
  have HF := Aside0.mk ((Frm.refl (fun i => i = d) w).setCell (p := ⟨d, 3, none⟩) (Or.inl rfl) (.bool true))
  have HG := Aside0.mk ((Frm.refl (fun i => i = d) w).setCell (p := ⟨d, 3, none⟩) (Or.inl rfl) (.bool false))
  cases down with
  | true =>
    go_enter Try.func34, Try.ntmps34
    go_wp2_with fail
    go_ret
    exact ⟨rfl, ⟨mb, a1, a2, by simpa [Dsk.burn] using blk_set HB.out 3 (.bool true), HM.out.frm HF.out (fun e => hne e.symm)⟩, (Frm.refl _ _).setCell (Or.inl a1) _⟩
  | false =>
    by_cases hz : fuse = 0
    · subst hz
      go_enter Try.func34, Try.ntmps34
      go_wp2_with fail
      go_ret
      exact ⟨rfl, ⟨mb, a1, a2, by simpa [Dsk.burn] using blk_set HB.out 3 (.bool true), HM.out.frm HF.out (fun e => hne e.symm)⟩, (Frm.refl _ _).setCell (Or.inl a1) _⟩
    · have hz1 : (fuse == 0) = false := beq_eq_false_iff_ne.2 hz
      obtain ⟨z, hzz⟩ : ∃ z, mx (wrap64 (fuse - 1)) (-1) = z := ⟨_, rfl⟩
      have hz2 : (if wrap64 (fuse - 1) < -1 then -1 else wrap64 (fuse - 1)) = z := hzz
      have e1 := Aside0.mk (show Dsk.burn ⟨room, m, fuse, false⟩ = (⟨room, m, z, false⟩, 0) by simp [Dsk.burn, hz, hzz])
      clear hz hzz
      go_enter Try.func34, Try.ntmps34
      go_wp2_with fail
      go_ret
      rw [e1.out]
      have h2 := blk_set (blk_set HB.out 3 (.bool false)) 2 (.int .i64 z)
      exact ⟨rfl, ⟨mb, a1, a2, by simpa using h2, (HM.out.frm HG.out (fun e => hne e.symm)).frm ((Frm.refl (fun i => i = d) _).setCell (p := ⟨d, 2, none⟩) (Or.inl rfl) (.int .i64 z)) (fun e => hne e.symm)⟩, ((Frm.refl _ _).setCell (Or.inl a1) _).setCell (Or.inl a1) _⟩

theorem disk_right.calls (s : ByteArray) (w : World) (r : Bool) (h : (!s.toList.isEmpty && decide ((s.size : Int) ≤ 20)) = r) : Calls Try.prog 33 #[.string s] w fun e w' => e = .returned (.bool r) ∧ w' = w := by
  have H := Aside0.mk h
  clear h
  cases hs : s.toList.isEmpty with
  | true =>
    have hs2 : s.toList = [] := by simpa using hs
    have HR := Aside0.mk (show false = r by have := H.out; rw [hs] at this; simpa using this)
    go_enter Try.func33, Try.ntmps33
    go_wp2_with fail
    go_ret
    rw [← HR.out]
    exact ⟨rfl, rfl⟩
  | false =>
    have hs2 : (!s.toList.isEmpty) = true := by rw [hs]; rfl
    have HR := Aside0.mk (show decide ((s.size : Int) ≤ 20) = r by have := H.out; rw [hs] at this; simpa using this)
    go_enter Try.func33, Try.ntmps33
    go_wp2_with fail
    go_ret
    rw [← HR.out]
    exact ⟨rfl, rfl⟩
def Dsk.new (room : Int) : Dsk := ⟨room, [], -1, false⟩
/-- What New comes to. -/
def NewPost (room : Int) (w : World) (e : Ending) (w' : World) : Prop :=
  ((room < 0 ∨ 1048576 < room) ∧ e = .returned (.tuple #[.pointer none, .int .i64 1]) ∧ w = w') ∨
  ((0 ≤ room ∧ room ≤ 1048576) ∧ ∃ d, e = .returned (.tuple #[.pointer (some ⟨d, 0, none⟩), .int .i64 0]) ∧ DskAt w' (fun k => w.heap.size ≤ k) d (Dsk.new room) ∧ Below w.heap.size w w')
set_option maxHeartbeats 1600000 in
set_option maxRecDepth 100000 in
theorem disk_New.calls (room : Int) (w : World) : Calls Try.prog 7 #[.int .i64 room] w (NewPost room w) := by
  have hmm := @run_makeMap Try.prog
  by_cases h1 : room < 0
  · go_enter Try.func7, Try.ntmps7
    go_wp2_with fail
    go_ret2
    exact Or.inl ⟨Or.inl h1, rfl, rfl⟩
  · have d1 : decide (room < 0) = false := decide_eq_false h1
    by_cases h2 : 1048576 < room
    · have d2 : decide (1048576 < room) = true := decide_eq_true h2
      go_enter Try.func7, Try.ntmps7
      go_wp2_with fail
      go_ret2
      exact Or.inl ⟨Or.inr h2, rfl, rfl⟩
    · have d2 : decide (1048576 < room) = false := decide_eq_false h2
      have H1 := Aside0.mk (Int.not_lt.1 h1)
      have H2 := Aside0.mk (Int.not_lt.1 h2)
      clear h1 h2
      go_enter Try.func7, Try.ntmps7
      go_wp2_with fail
      go_ret2
      exact Or.inr ⟨⟨H1.out, H2.out⟩, _, rfl, ⟨w.heap.size, by simp, Nat.le_refl _, by rw [show w.heap.size + 1 = (w.alloc (.map #[] 0)).heap.size by simp]; exact blk_new _ _, (MapOf.made w).alloc _⟩, ((Below.refl _ _).alloc (Nat.le_refl _) _).alloc (by simp) _⟩
def total (m : List (ByteArray × DFile)) : Int := (m.map fun p => (p.2.b.size : Int)).sum
def Dsk.left (st : Dsk) : Int := wrap64 (st.room - total st.m)
theorem total_mid (l1 l2 : List (ByteArray × DFile)) (p : ByteArray × DFile) : total (l1 ++ p :: l2) = total (l1 ++ l2) + p.2.b.size := by
  simp [total, List.sum_append]; omega
theorem wrap_sub (a b : Int) : wrap64 (wrap64 a - b) = wrap64 (a - b) := by unfold wrap64; omega
set_option maxHeartbeats 3200000 in
set_option maxRecDepth 100000 in
theorem disk_Left.calls (w : World) (A : Nat → Prop) (d : Nat) (st : Dsk) (h : DskAt w A d st) (hr : -9223372036854775808 ≤ st.room ∧ st.room ≤ 9223372036854775807) :
    Calls Try.prog 12 #[.pointer (some ⟨d, 0, none⟩)] w fun e w' => e = .returned (.int .i64 st.left) ∧ Below w.heap.size w w' := by
  obtain ⟨mb, a1, a2, hb, hm⟩ := h
  have HR := Aside0.mk (show wrap64 st.room = st.room by unfold wrap64; omega)
  have HB := Aside0.mk hb
  have HM := Aside0.mk hm
  obtain ⟨c0, c1, c2, c3, fr⟩ := cells4 hb
  clear hb hm hr
  go_enter Try.func12, Try.ntmps12
  go_wp2_with (at_range; refine wpList_range_of _ rfl _ 58 64 rfl Try.underlying58 mb st.m rfl HM.out ?_; intro w1 hi1 hf1 hz1)
  have HI := Aside0.mk hi1
  have HF := Aside0.mk (Frm.below (B := w.heap.size) hf1 (Nat.le_refl _) (fun _ _ x => x.elim))
  clear hi1 hf1 hz1 c0 c1 c2 c3 fr
  go_frame
  go_loopw [3] (fun v3 wr => ∃ rest, v3 = .int .i64 (wrap64 (st.room - (total st.m - total rest))) ∧ Aside0 (MapIt Try.prog 9 Value.string fileV wr w.heap.size mb st.m rest) ∧ Aside0 (Below w.heap.size w wr)) (fun _ wr => wr.rangeLeft mb w.heap.size)
  case atStart => exact ⟨st.m, by rw [Int.sub_self, Int.sub_zero, HR.out], HI, HF⟩
  case round =>
    obtain ⟨rest, rfl, HI, HF⟩ := hrel
    have hz := HF.out.size
    go_wp2_with (at_next; refine wpList_next_of _ rfl _ rfl _ _ _ _ rfl HI.out ?_ ?_)
    · intro h0
      go_wp2_with fail
      go_ret
      refine ⟨?_, HF.out⟩
      subst h0
      simp [Dsk.left, total]
    · intro l1 pk pf l2 w3 h0 hi3 hf3 hz3 hen
      have HI3 := Aside0.mk hi3
      have HF3 := Aside0.mk (HF.out.trans (Frm.below (B := w.heap.size) hf3 hz (fun i _ e => by omega)))
      have H0 := Aside0.mk h0
      have HZ := Aside0.mk (show wr.rangeLeft mb w.heap.size = rest.length from HI.out.left_eq)
      simp only [fileV] at hen ⊢
      clear hi3 hf3 hz3 h0
      have hw := wrap_sub (st.room - (total st.m - total rest)) pf.b.size
      have hrel : wrap64 (st.room - (total st.m - total rest) - pf.b.size) = wrap64 (st.room - (total st.m - total (l1 ++ l2))) := by
        rw [H0.out, total_mid]; congr 1; simp only; omega
      rw [hrel] at hw
      have HW := Aside0.mk hw
      clear hw hrel
      generalize wrap64 (st.room - (total st.m - total rest)) = n at HW ⊢
      go_wp2_with fail
      refine ⟨⟨l1 ++ l2, by rw [HW.out], ⟨HI3.out.alloc _⟩, ⟨HF3.out.alloc HF3.out.size _⟩⟩, ?_⟩
      rw [(HI3.out.alloc _).left_eq, HZ.out, H0.out]
      simp

def Dsk.size (st : Dsk) (name : ByteArray) : Int × Int := match look st.m name with | none => (0, 5) | some f => (f.b.size, 0)
set_option maxHeartbeats 1600000 in
set_option maxRecDepth 100000 in
theorem disk_Size.calls (w : World) (A : Nat → Prop) (d : Nat) (st : Dsk) (h : DskAt w A d st) (name : ByteArray) (hn : name.size ≤ 9223372036854775807) :
    Calls Try.prog 17 #[.pointer (some ⟨d, 0, none⟩), .string name] w fun e w' => e = .returned (.tuple #[.int .i64 (st.size name).1, .int .i64 (st.size name).2]) ∧ Below w.heap.size w w' := by
  obtain ⟨mb, a1, a2, hb, hm⟩ := h
  obtain ⟨c0, c1, c2, c3, fr⟩ := cells4 hb
  cases hl : look st.m name with
  | none =>
    have hlk := MapOf.absent strInj strKeyed hm Try.underlying58 (strOk hn) (zeroFile w) hl
    have e1 := Aside0.mk (show st.size name = (0, 5) by simp [Dsk.size, hl])
    clear hb hm hn hl
    simp only [fileV] at hlk
    go_enter Try.func17, Try.ntmps17
    go_wp2_with fail
    go_ret2
    rw [e1.out]
    exact ⟨rfl, (Below.refl _ _).alloc (Nat.le_refl _) _⟩
  | some f =>
    have hlk := MapOf.found strInj strKeyed hm Try.underlying58 (strOk hn) (zeroFile w) hl
    have e1 := Aside0.mk (show st.size name = ((f.b.size : Int), 0) by simp [Dsk.size, hl])
    clear hb hm hn hl
    simp only [fileV] at hlk
    go_enter Try.func17, Try.ntmps17
    go_wp2_with fail
    go_ret2
    rw [e1.out]
    exact ⟨rfl, (Below.refl _ _).alloc (Nat.le_refl _) _⟩
def Dsk.read (st : Dsk) (name : ByteArray) (off n : Int) : ByteArray × Int := match look st.m name with
  | none => (⟨#[]⟩, 5)
  | some f => if off < 0 ∨ n < 0 ∨ (f.b.size : Int) < off ∨ (f.b.size : Int) - off < n then (⟨#[]⟩, 1) else (f.b.extract off.toNat (off + n).toNat, 0)
set_option maxHeartbeats 3200000 in
set_option maxRecDepth 100000 in
theorem disk_Read.calls (w : World) (A : Nat → Prop) (d : Nat) (st : Dsk) (h : DskAt w A d st) (name : ByteArray) (hn : name.size ≤ 9223372036854775807) (off n : Int) (hsz : ∀ f, look st.m name = some f → f.b.size ≤ 9223372036854775807) :
    Calls Try.prog 29 #[.pointer (some ⟨d, 0, none⟩), .string name, .int .i64 off, .int .i64 n] w fun e w' => e = .returned (.tuple #[.string (st.read name off n).1, .int .i64 (st.read name off n).2]) ∧ Below w.heap.size w w' := by
  obtain ⟨mb, a1, a2, hb, hm⟩ := h
  obtain ⟨c0, c1, c2, c3, fr⟩ := cells4 hb
  cases hl : look st.m name with
  | none =>
    have hlk := MapOf.absent strInj strKeyed hm Try.underlying58 (strOk hn) (zeroFile w) hl
    have e1 := Aside0.mk (show st.read name off n = (⟨#[]⟩, 5) by simp [Dsk.read, hl])
    clear hb hm hn hl hsz
    simp only [fileV] at hlk
    go_enter Try.func29, Try.ntmps29
    go_wp2_with fail
    go_ret2
    rw [e1.out]
    exact ⟨rfl, (Below.refl _ _).alloc (Nat.le_refl _) _⟩
  | some f =>
    have hlk := MapOf.found strInj strKeyed hm Try.underlying58 (strOk hn) (zeroFile w) hl
    have hs := hsz f hl
    have e0 : st.read name off n = if off < 0 ∨ n < 0 ∨ (f.b.size : Int) < off ∨ (f.b.size : Int) - off < n then (⟨#[]⟩, 1) else (f.b.extract off.toNat (off + n).toNat, 0) := by simp [Dsk.read, hl]
    clear hb hm hn hl hsz
    simp only [fileV] at hlk
    by_cases h1 : off < 0
    · have e1 := Aside0.mk (show st.read name off n = (⟨#[]⟩, 1) by rw [e0, if_pos (Or.inl h1)])
      have d1 : decide (off < 0) = true := decide_eq_true h1
      clear e0 hs
      go_enter Try.func29, Try.ntmps29
      go_wp2_with fail
      go_ret2
      rw [e1.out]
      exact ⟨rfl, (Below.refl _ _).alloc (Nat.le_refl _) _⟩
    have d1 : decide (off < 0) = false := decide_eq_false h1
    by_cases h2 : n < 0
    · have e1 := Aside0.mk (show st.read name off n = (⟨#[]⟩, 1) by rw [e0, if_pos (Or.inr (Or.inl h2))])
      have d2 : decide (n < 0) = true := decide_eq_true h2
      clear e0 hs
      go_enter Try.func29, Try.ntmps29
      go_wp2_with fail
      go_ret2
      rw [e1.out]
      exact ⟨rfl, (Below.refl _ _).alloc (Nat.le_refl _) _⟩
    have d2 : decide (n < 0) = false := decide_eq_false h2
    by_cases h3 : (f.b.size : Int) < off
    · have e1 := Aside0.mk (show st.read name off n = (⟨#[]⟩, 1) by rw [e0, if_pos (Or.inr (Or.inr (Or.inl h3)))])
      have d3 : decide ((f.b.size : Int) < off) = true := decide_eq_true h3
      clear e0 hs
      go_enter Try.func29, Try.ntmps29
      go_wp2_with fail
      go_ret2
      rw [e1.out]
      exact ⟨rfl, (Below.refl _ _).alloc (Nat.le_refl _) _⟩
    have d3 : decide ((f.b.size : Int) < off) = false := decide_eq_false h3
    have o1 : 0 ≤ off := by omega
    have o2 : off ≤ (f.b.size : Int) := by omega
    have o3 : 0 ≤ n := by omega
    by_cases h4 : (f.b.size : Int) - off < n
    · have e1 := Aside0.mk (show st.read name off n = (⟨#[]⟩, 1) by rw [e0, if_pos (Or.inr (Or.inr (Or.inr h4)))])
      have d4 : decide ((f.b.size : Int) - off < n) = true := decide_eq_true h4
      clear e0
      go_enter Try.func29, Try.ntmps29
      go_wp2_with fail
      go_ret2
      rw [e1.out]
      exact ⟨rfl, (Below.refl _ _).alloc (Nat.le_refl _) _⟩
    have d4 : decide ((f.b.size : Int) - off < n) = false := decide_eq_false h4
    have e1 := Aside0.mk (show st.read name off n = (f.b.extract off.toNat (off + n).toNat, 0) by rw [e0, if_neg (by omega)])
    have o4 : off + n ≤ (f.b.size : Int) := by omega
    have o5 : off ≤ off + n := by omega
    clear e0
    go_enter Try.func29, Try.ntmps29
    go_wp2_with fail
    go_ret2
    rw [e1.out]
    exact ⟨rfl, (Below.refl _ _).alloc (Nat.le_refl _) _⟩
set_option maxHeartbeats 1600000 in
set_option maxRecDepth 100000 in
theorem disk_Fuse.calls (w : World) (A : Nat → Prop) (d : Nat) (st : Dsk) (h : DskAt w A d st) (n : Int) :
    Calls Try.prog 24 #[.pointer (some ⟨d, 0, none⟩), .int .i64 n] w fun e w' => e = .returned (.tuple #[]) ∧ DskAt w' A d { st with fuse := mx n (-1) } ∧ Frm A w w' := by
  obtain ⟨mb, a1, a2, hb, hm⟩ := h
  have HB := Aside0.mk hb
  have HM := Aside0.mk hm
  obtain ⟨c0, c1, c2, c3, fr⟩ := cells4 hb
  obtain ⟨z, hzz⟩ : ∃ z, mx n (-1) = z := ⟨_, rfl⟩
  have hz2 : (if n < -1 then -1 else n) = z := hzz
  have HZ := Aside0.mk hzz
  clear hb hm hzz
  go_enter Try.func24, Try.ntmps24
  go_wp2_with fail
  go_end0
  have hne := MapOf.ne HM.out HB.out
  rw [HZ.out]
  exact ⟨rfl, ⟨mb, a1, a2, by simpa using blk_set HB.out 2 (.int .i64 z), HM.out.frm ((Frm.refl (fun i => i = d) _).setCell (Or.inl rfl) _) (fun e => hne e.symm)⟩, (Frm.refl _ _).setCell (Or.inl a1) _⟩
end Go.Proofs.Ytpmnljdhjgjgfaa.Thw
