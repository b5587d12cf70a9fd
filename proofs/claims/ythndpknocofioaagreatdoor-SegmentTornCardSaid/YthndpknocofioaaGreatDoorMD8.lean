/- Several texts of mine in one (ObjS, Ev06, Ev06b, Ev06c, Ev06d, Ev06e, Ev06f, Ev06g, Ev06h). -/
import Derived.Test.YthndpknocofioaaGreatDoorObjM
import Derived.Sort.KeysCollected
import Derived.Test.YthndpknocofioaaGreatDoorWWords
import Derived.Test.YthndpknocofioaaGreatDoorHead
import Derived.Test.YthndpknocofioaaGreatDoorIter
/-! ## The keys of a map in memory, sorted. No program in sight. -/
namespace Go.Proofs.YthndpknocofioaaGreatDoor.Thw
open Go Go.RowKit Go.Maps
set_option linter.unusedVariables false
set_option linter.unusedSimpArgs false
/-- Names, rising. -/
def sorted (l : List ByteArray) : List ByteArray := ((l.map fun s => s.data.toList).mergeSort leB).map fun x => ⟨x.toArray⟩
theorem sorted_length (l : List ByteArray) : (sorted l).length = l.length := by simp [sorted]
theorem sorted_perm' (l : List ByteArray) : (sorted l).Perm l := by
  have h := (List.mergeSort_perm (l.map fun s => s.data.toList) leB).map (fun x => (⟨x.toArray⟩ : ByteArray))
  have e : (l.map fun s => s.data.toList).map (fun x => (⟨x.toArray⟩ : ByteArray)) = l := by
    rw [List.map_map]
    conv => rhs; rw [← List.map_id l]
    refine List.map_congr_left fun s _ => ?_
    simp
  rw [e] at h
  exact h
/-- How any element reads, for whoever asks of the keys alone. -/
def anyElem (v : Value) : Option (DataW Unit × List MemPlace) := some (.lit (.bool true), [])
theorem MapOf.owns {α : Type} {P : Program} {kt : TypeId} {ev : α → Value} {w : World} {b : Nat} {m : List (ByteArray × α)} (h : MapOf P kt Value.string ev w b m) (hkt : P.underlying kt = some .string) (hlen : m.length ≤ maxLen) :
    ∃ D0 : DataW Unit, w.ownsMap P kt anyElem b m.length D0 ∧ Maps.size D0 = m.length ∧ (strKeys D0).Perm (m.map fun p => p.1.data.toList) := by
  obtain ⟨es, clock, hb, hst, hm, hk⟩ := h
  have hl : es.size = m.length := by have := congrArg List.length hm; simpa using this
  have hrd : ∀ x ∈ es.toList, ∃ l, keyOf P kt x.key = some l := entries_readable hm hk
  refine ⟨_, ⟨es, clock, hb, ⟨by omega, hst, fun x hx => ?_⟩, by omega, rfl⟩, ?_, ?_⟩
  · obtain ⟨l, hl'⟩ := hrd x hx
    exact ⟨(l, .lit (.bool true)), by simp [WideElems.rd, hl', anyElem]⟩
  · simp [Maps.size, length_sorted, hl]
  · show (List.map (fun p : Lit × DataW Unit => strOf p.1) _).Perm _
    refine ((WideShapes.sorted_perm _).map _).trans ?_
    rw [List.map_map]
    have : es.toList.map ((fun p : Lit × DataW Unit => strOf p.1) ∘ WideElems.rg P kt anyElem) = m.map fun p => p.1.data.toList := by
      have e1 : es.toList.map ((fun p : Lit × DataW Unit => strOf p.1) ∘ WideElems.rg P kt anyElem) = (es.toList.map fun e => (e.key, e.val)).map fun q => match q.1 with | .string s => s.data.toList | _ => [] := by
        rw [List.map_map]
        refine List.map_congr_left fun x hx => ?_
        have hx' : x.key ∈ es.toList.map (·.key) := List.mem_map.2 ⟨x, hx, rfl⟩
        rw [entries_keys hm] at hx'
        obtain ⟨p, hp, e⟩ := List.mem_map.1 hx'
        obtain ⟨l, hl'⟩ := hrd x hx
        have e2 : l = .string p.1.data.toList := by
          rw [← e] at hl'
          simp [keyOf, hkt, mapKey] at hl'
          exact hl'.2.symm
        have hl2 : keyOf P kt (Value.string p.1) = some l := by rw [e]; exact hl'
        simp [WideElems.rg, WideElems.rd, hl2, anyElem, e2, strOf, ← e]
      rw [e1, hm, List.map_map]
      rfl
    rw [this]
/-- The row that holds them. -/
theorem R_sorted {W : World} {base kt : Nat} {v : Value} {ss : List (List UInt8)} {l : List ByteArray} (h : W.ownsRow base kt 1 v ss.length ((ss.mergeSort fun x y => decide (x ≤ y)).map Go.Proofs.encStr)) (hp : ss.Perm (l.map fun s => s.data.toList)) :
    Go.Proofs.YthndpknocofioaaGreatDoorW.PrintWords.Kd.string.R kt W base (fun _ => True) v (sorted l) := by
  have e : (ss.mergeSort fun x y => decide (x ≤ y)) = (l.map fun s => s.data.toList).mergeSort leB := mergeSort_of_perm hp
  have hlen : ss.length = (sorted l).length := by rw [sorted_length, hp.length_eq, List.length_map]
  rw [e, hlen] at h
  refine Go.Proofs.YthndpknocofioaaGreatDoorW.PrintWords.Kd.R_of_own (enc := Value.string) ?_ (fun _ _ => trivial)
  have : Go.Proofs.YthndpknocofioaaGreatDoorW.PrintWords.encs Value.string (sorted l) = ((l.map fun s => s.data.toList).mergeSort leB).map Go.Proofs.encStr := by
    simp [Go.Proofs.YthndpknocofioaaGreatDoorW.PrintWords.encs, sorted, List.map_map, Go.Proofs.encStr, Function.comp_def]
  rw [this]
  exact h
end Go.Proofs.YthndpknocofioaaGreatDoor.Thw
/-! ## Layer 6: the disk in memory, and what its calls do to it. -/
namespace Go.Proofs.YthndpknocofioaaGreatDoor.Thw
open Go Go.RowKit Go.Proofs.YthndpknocofioaaGreatDoorW.PrintWords Go.Proofs.YthndpknocofioaaGreatDoorW.PrintLast Go.Proofs.YthndpknocofioaaGreatDoorW.PrintMore
attribute [local go_sem] max2_int min2_int max_two min_two
set_option linter.unusedVariables false
set_option linter.unusedSimpArgs false

/-- A set of blocks, and all that is new. -/
def gr (A : Nat → Prop) (w : World) : Nat → Prop := fun k => A k ∨ w.heap.size ≤ k
theorem gr_mono {A : Nat → Prop} {w W : World} (hz : w.heap.size ≤ W.heap.size) : ∀ k, gr A W k → gr A w k := fun k hk => hk.imp id (fun h => Nat.le_trans hz h)
theorem cells1 {w : World} {s : Nat} {v0 : Value} {t : TypeId} (h : w.heap[s]? = some (.cells #[v0] t)) : w.cell? ⟨s, 0, none⟩ = some v0 ∧ w.frozen? ⟨s, 0, none⟩ = false := by
  refine ⟨?_, ?_⟩ <;> simp [World.cell?, World.frozen?, h]
theorem cells2 {w : World} {s : Nat} {v0 v1 : Value} {t : TypeId} (h : w.heap[s]? = some (.cells #[v0, v1] t)) : w.cell? ⟨s, 0, none⟩ = some v0 ∧ w.cell? ⟨s, 1, none⟩ = some v1 ∧ ∀ i, w.frozen? ⟨s, i, none⟩ = false := by
  refine ⟨?_, ?_, fun i => ?_⟩ <;> simp [World.cell?, World.frozen?, h]
theorem cells4 {w : World} {s : Nat} {v0 v1 v2 v3 : Value} {t : TypeId} (h : w.heap[s]? = some (.cells #[v0, v1, v2, v3] t)) :
    w.cell? ⟨s, 0, none⟩ = some v0 ∧ w.cell? ⟨s, 1, none⟩ = some v1 ∧ w.cell? ⟨s, 2, none⟩ = some v2 ∧ w.cell? ⟨s, 3, none⟩ = some v3 ∧ ∀ i, w.frozen? ⟨s, i, none⟩ = false := by
  refine ⟨?_, ?_, ?_, ?_, fun i => ?_⟩ <;> simp [World.cell?, World.frozen?, h]
structure DFile where
  b : ByteArray
  sure : Int
structure Dsk where
  room : Int
  m : List (ByteArray × DFile)
  fuse : Int
  down : Bool
def fileV (f : DFile) : Value := .agg #[.string f.b, .int .i64 f.sure]
def DskAt (w : World) (A : Nat → Prop) (d : Nat) (st : Dsk) : Prop :=
  ∃ mb, A d ∧ A mb ∧ w.heap[d]? = some (.cells #[.int .i64 st.room, .map (some mb), .int .i64 st.fuse, .bool st.down] 90) ∧ MapOf Tryz.prog 9 Value.string fileV w mb st.m
section
variable {w w' : World} {A A' S : Nat → Prop} {d : Nat} {st : Dsk}
theorem DskAt.mono (h : DskAt w A d st) (hA : ∀ k, k < w.heap.size → A k → A' k) : DskAt w A' d st := by
  obtain ⟨mb, a1, a2, hb, hm⟩ := h
  exact ⟨mb, hA _ (blk_lt hb) a1, hA _ hm.lt a2, hb, hm⟩
theorem DskAt.frm (h : DskAt w A d st) (hf : Frm S w w') (hn : ∀ k, A k → ¬ S k) : DskAt w' A d st := by
  obtain ⟨mb, a1, a2, hb, hm⟩ := h
  exact ⟨mb, a1, a2, hf.keeps hb (hn _ a1), hm.frm hf (hn _ a2)⟩
theorem DskAt.alloc (h : DskAt w A d st) (o : Obj) : DskAt (w.alloc o) A d st := h.frm (S := None') ((Frm.refl _ w).alloc o) (fun _ _ x => x)
theorem DskAt.drew (h : DskAt w A d st) : DskAt w.drew A d st := h.frm (S := None') (Frm.refl _ w).drew (fun _ _ x => x)
theorem DskAt.below (h : DskAt w A d st) (hb : Below w.heap.size w w') : DskAt w' A d st := h.frm (S := None') (Frm.of_new hb) (fun _ _ x => x)
theorem DskAt.lt (h : DskAt w A d st) : d < w.heap.size := by
  obtain ⟨mb, a1, a2, hb, hm⟩ := h
  exact blk_lt hb
theorem DskAt.bound (h : DskAt w A d st) : DskAt w (fun k => A k ∧ k < w.heap.size) d st := h.mono fun _ hk ha => ⟨ha, hk⟩
end
theorem strOk {s : ByteArray} (h : s.size ≤ 9223372036854775807) : ∃ l, keyOf Tryz.prog 9 (.string s) = some l := ⟨_, Go.WideMaps.keyOf_string_mk Tryz.underlying9 (by unfold maxLen; omega)⟩
theorem strInj (a b : ByteArray) (h : Value.string a = Value.string b) : a = b := by injection h
theorem strKeyed : Go.Maps.Keyed Tryz.prog 9 := Go.Maps.string_keyed Tryz.underlying9
theorem zeroFile (w : World) : (zeroValue 98).run Tryz.prog w = .ok (fileV ⟨⟨#[]⟩, 0⟩) w := by kernel_rfl

def Dsk.burn (st : Dsk) : Dsk × Int := if (st.down || st.fuse == 0) = true then ({ st with down := true }, 8) else ({ st with fuse := mx (wrap64 (st.fuse - 1)) (-1), down := false }, 0)
set_option maxHeartbeats 1600000 in
set_option maxRecDepth 100000 in
theorem disk_burn.calls (w : World) (A : Nat → Prop) (d : Nat) (st : Dsk) (h : DskAt w A d st) :
    Calls Tryz.prog 82 #[.pointer (some ⟨d, 0, none⟩)] w fun e w' => e = .returned (.int .i64 st.burn.2) ∧ DskAt w' A d st.burn.1 ∧ Frm A w w' := by
  obtain ⟨mb, a1, a2, hb, hm⟩ := h
  obtain ⟨room, m, fuse, down⟩ := st
  have HB := Aside0.mk hb
  have HM := Aside0.mk hm
  obtain ⟨c0, c1, c2, c3, fr⟩ := cells4 hb
  clear hb hm
  have hne := MapOf.ne HM.out HB.out
  have HF := Aside0.mk ((Frm.refl (fun i => i = d) w).setCell (p := ⟨d, 3, none⟩) (Or.inl rfl) (.bool true))
  have HG := Aside0.mk ((Frm.refl (fun i => i = d) w).setCell (p := ⟨d, 3, none⟩) (Or.inl rfl) (.bool false))
  cases down with
  | true =>
    go_enter Tryz.func82, Tryz.ntmps82
    go_wp2_with fail
    go_ret
    exact ⟨rfl, ⟨mb, a1, a2, by simpa [Dsk.burn] using blk_set HB.out 3 (.bool true), HM.out.frm HF.out (fun e => hne e.symm)⟩, (Frm.refl _ _).setCell (Or.inl a1) _⟩
  | false =>
    by_cases hz : fuse = 0
    · subst hz
      go_enter Tryz.func82, Tryz.ntmps82
      go_wp2_with fail
      go_ret
      exact ⟨rfl, ⟨mb, a1, a2, by simpa [Dsk.burn] using blk_set HB.out 3 (.bool true), HM.out.frm HF.out (fun e => hne e.symm)⟩, (Frm.refl _ _).setCell (Or.inl a1) _⟩
    · have hz1 : (fuse == 0) = false := beq_eq_false_iff_ne.2 hz
      obtain ⟨z, hzz⟩ : ∃ z, mx (wrap64 (fuse - 1)) (-1) = z := ⟨_, rfl⟩
      have hz2 : (if wrap64 (fuse - 1) < -1 then -1 else wrap64 (fuse - 1)) = z := hzz
      have e1 := Aside0.mk (show Dsk.burn ⟨room, m, fuse, false⟩ = (⟨room, m, z, false⟩, 0) by simp [Dsk.burn, hz, hzz])
      clear hz hzz
      go_enter Tryz.func82, Tryz.ntmps82
      go_wp2_with fail
      go_ret
      rw [e1.out]
      have h2 := blk_set (blk_set HB.out 3 (.bool false)) 2 (.int .i64 z)
      exact ⟨rfl, ⟨mb, a1, a2, by simpa using h2, (HM.out.frm HG.out (fun e => hne e.symm)).frm ((Frm.refl (fun i => i = d) _).setCell (p := ⟨d, 2, none⟩) (Or.inl rfl) (.int .i64 z)) (fun e => hne e.symm)⟩, ((Frm.refl _ _).setCell (Or.inl a1) _).setCell (Or.inl a1) _⟩

theorem disk_right.calls (s : ByteArray) (w : World) (r : Bool) (h : (!s.toList.isEmpty && decide ((s.size : Int) ≤ 20)) = r) : Calls Tryz.prog 81 #[.string s] w fun e w' => e = .returned (.bool r) ∧ w' = w := by
  have H := Aside0.mk h
  clear h
  cases hs : s.toList.isEmpty with
  | true =>
    have hs2 : s.toList = [] := by simpa using hs
    have HR := Aside0.mk (show false = r by have := H.out; rw [hs] at this; simpa using this)
    go_enter Tryz.func81, Tryz.ntmps81
    go_wp2_with fail
    go_ret
    rw [← HR.out]
    exact ⟨rfl, rfl⟩
  | false =>
    have hs2 : (!s.toList.isEmpty) = true := by rw [hs]; rfl
    have HR := Aside0.mk (show decide ((s.size : Int) ≤ 20) = r by have := H.out; rw [hs] at this; simpa using this)
    go_enter Tryz.func81, Tryz.ntmps81
    go_wp2_with fail
    go_ret
    rw [← HR.out]
    exact ⟨rfl, rfl⟩
def Dsk.new (room : Int) : Dsk := ⟨room, [], -1, false⟩
/-- What New comes to. -/
def NewPost (room : Int) (w : World) (e : Ending) (w' : World) : Prop :=
  ((room < 0 ∨ 1048576 < room) ∧ e = .returned (.tuple #[.pointer none, .int .i64 1]) ∧ w = w') ∨
  ((0 ≤ room ∧ room ≤ 1048576) ∧ ∃ d, e = .returned (.tuple #[.pointer (some ⟨d, 0, none⟩), .int .i64 0]) ∧ DskAt w' (fun k => w.heap.size ≤ k) d (Dsk.new room) ∧ Below w.heap.size w w')
set_option maxHeartbeats 1600000 in
set_option maxRecDepth 100000 in
theorem disk_New.calls (room : Int) (w : World) : Calls Tryz.prog 14 #[.int .i64 room] w (NewPost room w) := by
  have hmm := @run_makeMap Tryz.prog
  by_cases h1 : room < 0
  · go_enter Tryz.func14, Tryz.ntmps14
    go_wp2_with fail
    go_ret2
    exact Or.inl ⟨Or.inl h1, rfl, rfl⟩
  · have d1 : decide (room < 0) = false := decide_eq_false h1
    by_cases h2 : 1048576 < room
    · have d2 : decide (1048576 < room) = true := decide_eq_true h2
      go_enter Tryz.func14, Tryz.ntmps14
      go_wp2_with fail
      go_ret2
      exact Or.inl ⟨Or.inr h2, rfl, rfl⟩
    · have d2 : decide (1048576 < room) = false := decide_eq_false h2
      have H1 := Aside0.mk (Int.not_lt.1 h1)
      have H2 := Aside0.mk (Int.not_lt.1 h2)
      clear h1 h2
      go_enter Tryz.func14, Tryz.ntmps14
      go_wp2_with fail
      go_ret2
      exact Or.inr ⟨⟨H1.out, H2.out⟩, _, rfl, ⟨w.heap.size, by simp, Nat.le_refl _, by rw [show w.heap.size + 1 = (w.alloc (.map #[] 0)).heap.size by simp]; exact blk_new _ _, (MapOf.made w).alloc _⟩, ((Below.refl _ _).alloc (Nat.le_refl _) _).alloc (by simp) _⟩
def total (m : List (ByteArray × DFile)) : Int := (m.map fun p => (p.2.b.size : Int)).sum
def Dsk.left (st : Dsk) : Int := wrap64 (st.room - total st.m)
theorem total_mid (l1 l2 : List (ByteArray × DFile)) (p : ByteArray × DFile) : total (l1 ++ p :: l2) = total (l1 ++ l2) + p.2.b.size := by
  simp [total, List.sum_append]; omega
theorem wrap_sub (a b : Int) : wrap64 (wrap64 a - b) = wrap64 (a - b) := by unfold wrap64; omega
set_option maxHeartbeats 3200000 in
set_option maxRecDepth 100000 in
theorem disk_Left.calls (w : World) (A : Nat → Prop) (d : Nat) (st : Dsk) (h : DskAt w A d st) (hr : -9223372036854775808 ≤ st.room ∧ st.room ≤ 9223372036854775807) :
    Calls Tryz.prog 49 #[.pointer (some ⟨d, 0, none⟩)] w fun e w' => e = .returned (.int .i64 st.left) ∧ Below w.heap.size w w' := by
  obtain ⟨mb, a1, a2, hb, hm⟩ := h
  have HR := Aside0.mk (show wrap64 st.room = st.room by unfold wrap64; omega)
  have HB := Aside0.mk hb
  have HM := Aside0.mk hm
  obtain ⟨c0, c1, c2, c3, fr⟩ := cells4 hb
  clear hb hm hr
  go_enter Tryz.func49, Tryz.ntmps49
  go_wp2_with (at_range; refine wpList_range_of _ rfl _ 88 98 rfl Tryz.underlying88 mb st.m rfl HM.out ?_; intro w1 hi1 hf1 hz1)
  have HI := Aside0.mk hi1
  have HF := Aside0.mk (Frm.below (B := w.heap.size) hf1 (Nat.le_refl _) (fun _ _ x => x.elim))
  clear hi1 hf1 hz1 c0 c1 c2 c3 fr
  go_frame
  go_loopw [3] (fun v3 wr => ∃ rest, v3 = .int .i64 (wrap64 (st.room - (total st.m - total rest))) ∧ Aside0 (MapIt Tryz.prog 9 Value.string fileV wr w.heap.size mb st.m rest) ∧ Aside0 (Below w.heap.size w wr)) (fun _ wr => wr.rangeLeft mb w.heap.size)
  case atStart => exact ⟨st.m, by rw [Int.sub_self, Int.sub_zero, HR.out], HI, HF⟩
  case round =>
    obtain ⟨rest, rfl, HI, HF⟩ := hrel
    have hz := HF.out.size
    go_wp2_with (at_next; refine wpList_next_of _ rfl _ rfl _ _ _ _ rfl HI.out ?_ ?_)
    · intro h0
      go_wp2_with fail
      go_ret
      refine ⟨?_, HF.out⟩
      subst h0
      simp [Dsk.left, total]
    · intro l1 pk pf l2 w3 h0 hi3 hf3 hz3 hen
      have HI3 := Aside0.mk hi3
      have HF3 := Aside0.mk (HF.out.trans (Frm.below (B := w.heap.size) hf3 hz (fun i _ e => by omega)))
      have H0 := Aside0.mk h0
      have HZ := Aside0.mk (show wr.rangeLeft mb w.heap.size = rest.length from HI.out.left_eq)
      simp only [fileV] at hen ⊢
      clear hi3 hf3 hz3 h0
      have hw := wrap_sub (st.room - (total st.m - total rest)) pf.b.size
      have hrel : wrap64 (st.room - (total st.m - total rest) - pf.b.size) = wrap64 (st.room - (total st.m - total (l1 ++ l2))) := by
        rw [H0.out, total_mid]; congr 1; simp only; omega
      rw [hrel] at hw
      have HW := Aside0.mk hw
      clear hw hrel
      generalize wrap64 (st.room - (total st.m - total rest)) = n at HW ⊢
      go_wp2_with fail
      refine ⟨⟨l1 ++ l2, by rw [HW.out], ⟨HI3.out.alloc _⟩, ⟨HF3.out.alloc HF3.out.size _⟩⟩, ?_⟩
      rw [(HI3.out.alloc _).left_eq, HZ.out, H0.out]
      simp

def Dsk.size (st : Dsk) (name : ByteArray) : Int × Int := match look st.m name with | none => (0, 5) | some f => (f.b.size, 0)
set_option maxHeartbeats 1600000 in
set_option maxRecDepth 100000 in
theorem disk_Size.calls (w : World) (A : Nat → Prop) (d : Nat) (st : Dsk) (h : DskAt w A d st) (name : ByteArray) (hn : name.size ≤ 9223372036854775807) :
    Calls Tryz.prog 23 #[.pointer (some ⟨d, 0, none⟩), .string name] w fun e w' => e = .returned (.tuple #[.int .i64 (st.size name).1, .int .i64 (st.size name).2]) ∧ Below w.heap.size w w' := by
  obtain ⟨mb, a1, a2, hb, hm⟩ := h
  obtain ⟨c0, c1, c2, c3, fr⟩ := cells4 hb
  cases hl : look st.m name with
  | none =>
    have hlk := MapOf.absent strInj strKeyed hm Tryz.underlying88 (strOk hn) (zeroFile w) hl
    have e1 := Aside0.mk (show st.size name = (0, 5) by simp [Dsk.size, hl])
    clear hb hm hn hl
    simp only [fileV] at hlk
    go_enter Tryz.func23, Tryz.ntmps23
    go_wp2_with fail
    go_ret2
    rw [e1.out]
    exact ⟨rfl, (Below.refl _ _).alloc (Nat.le_refl _) _⟩
  | some f =>
    have hlk := MapOf.found strInj strKeyed hm Tryz.underlying88 (strOk hn) (zeroFile w) hl
    have e1 := Aside0.mk (show st.size name = ((f.b.size : Int), 0) by simp [Dsk.size, hl])
    clear hb hm hn hl
    simp only [fileV] at hlk
    go_enter Tryz.func23, Tryz.ntmps23
    go_wp2_with fail
    go_ret2
    rw [e1.out]
    exact ⟨rfl, (Below.refl _ _).alloc (Nat.le_refl _) _⟩
def Dsk.read (st : Dsk) (name : ByteArray) (off n : Int) : ByteArray × Int := match look st.m name with
  | none => (⟨#[]⟩, 5)
  | some f => if off < 0 ∨ n < 0 ∨ (f.b.size : Int) < off ∨ (f.b.size : Int) - off < n then (⟨#[]⟩, 1) else (f.b.extract off.toNat (off + n).toNat, 0)
set_option maxHeartbeats 3200000 in
set_option maxRecDepth 100000 in
theorem disk_Read.calls (w : World) (A : Nat → Prop) (d : Nat) (st : Dsk) (h : DskAt w A d st) (name : ByteArray) (hn : name.size ≤ 9223372036854775807) (off n : Int) (hsz : ∀ f, look st.m name = some f → f.b.size ≤ 9223372036854775807) :
    Calls Tryz.prog 98 #[.pointer (some ⟨d, 0, none⟩), .string name, .int .i64 off, .int .i64 n] w fun e w' => e = .returned (.tuple #[.string (st.read name off n).1, .int .i64 (st.read name off n).2]) ∧ Below w.heap.size w w' := by
  obtain ⟨mb, a1, a2, hb, hm⟩ := h
  obtain ⟨c0, c1, c2, c3, fr⟩ := cells4 hb
  cases hl : look st.m name with
  | none =>
    have hlk := MapOf.absent strInj strKeyed hm Tryz.underlying88 (strOk hn) (zeroFile w) hl
    have e1 := Aside0.mk (show st.read name off n = (⟨#[]⟩, 5) by simp [Dsk.read, hl])
    clear hb hm hn hl hsz
    simp only [fileV] at hlk
    go_enter Tryz.func98, Tryz.ntmps98
    go_wp2_with fail
    go_ret2
    rw [e1.out]
    exact ⟨rfl, (Below.refl _ _).alloc (Nat.le_refl _) _⟩
  | some f =>
    have hlk := MapOf.found strInj strKeyed hm Tryz.underlying88 (strOk hn) (zeroFile w) hl
    have hs := hsz f hl
    have e0 : st.read name off n = if off < 0 ∨ n < 0 ∨ (f.b.size : Int) < off ∨ (f.b.size : Int) - off < n then (⟨#[]⟩, 1) else (f.b.extract off.toNat (off + n).toNat, 0) := by simp [Dsk.read, hl]
    clear hb hm hn hl hsz
    simp only [fileV] at hlk
    by_cases h1 : off < 0
    · have e1 := Aside0.mk (show st.read name off n = (⟨#[]⟩, 1) by rw [e0, if_pos (Or.inl h1)])
      have d1 : decide (off < 0) = true := decide_eq_true h1
      clear e0 hs
      go_enter Tryz.func98, Tryz.ntmps98
      go_wp2_with fail
      go_ret2
      rw [e1.out]
      exact ⟨rfl, (Below.refl _ _).alloc (Nat.le_refl _) _⟩
    have d1 : decide (off < 0) = false := decide_eq_false h1
    by_cases h2 : n < 0
    · have e1 := Aside0.mk (show st.read name off n = (⟨#[]⟩, 1) by rw [e0, if_pos (Or.inr (Or.inl h2))])
      have d2 : decide (n < 0) = true := decide_eq_true h2
      clear e0 hs
      go_enter Tryz.func98, Tryz.ntmps98
      go_wp2_with fail
      go_ret2
      rw [e1.out]
      exact ⟨rfl, (Below.refl _ _).alloc (Nat.le_refl _) _⟩
    have d2 : decide (n < 0) = false := decide_eq_false h2
    by_cases h3 : (f.b.size : Int) < off
    · have e1 := Aside0.mk (show st.read name off n = (⟨#[]⟩, 1) by rw [e0, if_pos (Or.inr (Or.inr (Or.inl h3)))])
      have d3 : decide ((f.b.size : Int) < off) = true := decide_eq_true h3
      clear e0 hs
      go_enter Tryz.func98, Tryz.ntmps98
      go_wp2_with fail
      go_ret2
      rw [e1.out]
      exact ⟨rfl, (Below.refl _ _).alloc (Nat.le_refl _) _⟩
    have d3 : decide ((f.b.size : Int) < off) = false := decide_eq_false h3
    have o1 : 0 ≤ off := by omega
    have o2 : off ≤ (f.b.size : Int) := by omega
    have o3 : 0 ≤ n := by omega
    by_cases h4 : (f.b.size : Int) - off < n
    · have e1 := Aside0.mk (show st.read name off n = (⟨#[]⟩, 1) by rw [e0, if_pos (Or.inr (Or.inr (Or.inr h4)))])
      have d4 : decide ((f.b.size : Int) - off < n) = true := decide_eq_true h4
      clear e0
      go_enter Tryz.func98, Tryz.ntmps98
      go_wp2_with fail
      go_ret2
      rw [e1.out]
      exact ⟨rfl, (Below.refl _ _).alloc (Nat.le_refl _) _⟩
    have d4 : decide ((f.b.size : Int) - off < n) = false := decide_eq_false h4
    have e1 := Aside0.mk (show st.read name off n = (f.b.extract off.toNat (off + n).toNat, 0) by rw [e0, if_neg (by omega)])
    have o4 : off + n ≤ (f.b.size : Int) := by omega
    have o5 : off ≤ off + n := by omega
    clear e0
    go_enter Tryz.func98, Tryz.ntmps98
    go_wp2_with fail
    go_ret2
    rw [e1.out]
    exact ⟨rfl, (Below.refl _ _).alloc (Nat.le_refl _) _⟩
set_option maxHeartbeats 1600000 in
set_option maxRecDepth 100000 in
theorem disk_Fuse.calls (w : World) (A : Nat → Prop) (d : Nat) (st : Dsk) (h : DskAt w A d st) (n : Int) :
    Calls Tryz.prog 38 #[.pointer (some ⟨d, 0, none⟩), .int .i64 n] w fun e w' => e = .returned (.tuple #[]) ∧ DskAt w' A d { st with fuse := mx n (-1) } ∧ Frm A w w' := by
  obtain ⟨mb, a1, a2, hb, hm⟩ := h
  have HB := Aside0.mk hb
  have HM := Aside0.mk hm
  obtain ⟨c0, c1, c2, c3, fr⟩ := cells4 hb
  obtain ⟨z, hzz⟩ : ∃ z, mx n (-1) = z := ⟨_, rfl⟩
  have hz2 : (if n < -1 then -1 else n) = z := hzz
  have HZ := Aside0.mk hzz
  clear hb hm hzz
  go_enter Tryz.func38, Tryz.ntmps38
  go_wp2_with fail
  go_end0
  have hne := MapOf.ne HM.out HB.out
  rw [HZ.out]
  exact ⟨rfl, ⟨mb, a1, a2, by simpa using blk_set HB.out 2 (.int .i64 z), HM.out.frm ((Frm.refl (fun i => i = d) _).setCell (Or.inl rfl) _) (fun e => hne e.symm)⟩, (Frm.refl _ _).setCell (Or.inl a1) _⟩
end Go.Proofs.YthndpknocofioaaGreatDoor.Thw
/-! ## Layer 6: the disk's calls that change it. -/
namespace Go.Proofs.YthndpknocofioaaGreatDoor.Thw
open Go Go.RowKit Go.Proofs.YthndpknocofioaaGreatDoorW.PrintWords Go.Proofs.YthndpknocofioaaGreatDoorW.PrintLast Go.Proofs.YthndpknocofioaaGreatDoorW.PrintMore
attribute [local go_sem] max2_int min2_int max_two min_two
set_option linter.unusedVariables false
set_option linter.unusedSimpArgs false
def Dsk.change (st : Dsk) (name : ByteArray) (may : Bool) (upd : Dsk → DFile → Dsk) : Dsk × Int := match look st.m name with
  | none => (st, 5)
  | some f => if may = true then (if st.burn.2 = 0 then (upd st.burn.1 f, 0) else (st.burn.1, st.burn.2)) else (st, 1)
theorem burn_code (st : Dsk) : st.burn.2 = 0 ∨ st.burn.2 = 8 := by
  unfold Dsk.burn
  split
  · exact Or.inr rfl
  · exact Or.inl rfl
set_option maxHeartbeats 3200000 in
set_option maxRecDepth 100000 in
theorem disk_change.calls (w : World) (A : Nat → Prop) (d : Nat) (st : Dsk) (h : DskAt w A d st) (hA : ∀ k, A k → k < w.heap.size) (name : ByteArray) (hn : name.size ≤ 9223372036854775807) (may : Bool) (F : Nat) (fn : Func) (hf : Tryz.prog.funcs[F]? = some fn) (hname : (fn.name == "runtime.NumGoroutine") = false) (hbody : fn.body.isSome = true) (captured : Array Value) (upd : Dsk → DFile → Dsk)
    (hdo : ∀ W f, look st.m name = some f → may = true → DskAt W A d st.burn.1 → Frm A w W → Calls Tryz.prog F (#[fileV f] ++ captured) W fun e w' => e = .returned (.tuple #[]) ∧ DskAt w' (gr A W) d (upd st.burn.1 f) ∧ Frm A W w') :
    Calls Tryz.prog 60 #[.pointer (some ⟨d, 0, none⟩), .string name, .bool may, .func (.func F) #[] captured] w fun e w' => e = .returned (.int .i64 (st.change name may upd).2) ∧ DskAt w' (gr A w) d (st.change name may upd).1 ∧ Frm A w w' := by
  have h0 := h
  obtain ⟨mb, a1, a2, hb, hm⟩ := h
  have H0 := Aside0.mk h0
  obtain ⟨c0, c1, c2, c3, fr⟩ := cells4 hb
  cases hl : look st.m name with
  | none =>
    have hlk := MapOf.absent strInj strKeyed hm Tryz.underlying88 (strOk hn) (zeroFile w) hl
    have e1 := Aside0.mk (show st.change name may upd = (st, 5) by simp [Dsk.change, hl])
    clear hb hm hn hl h0 hf hname hbody hdo
    simp only [fileV] at hlk
    go_enter Tryz.func60, Tryz.ntmps60
    go_wp2_with fail
    go_ret
    rw [e1.out]
    exact ⟨rfl, (H0.out.alloc _).mono (fun _ _ hk => Or.inl hk), (Frm.refl _ _).alloc _⟩
  | some f =>
    have hlk := MapOf.found strInj strKeyed hm Tryz.underlying88 (strOk hn) (zeroFile w) hl
    cases may with
    | false =>
      have e1 := Aside0.mk (show st.change name false upd = (st, 1) by simp [Dsk.change, hl])
      clear hb hm hn hl h0 hf hname hbody hdo
      simp only [fileV] at hlk
      go_enter Tryz.func60, Tryz.ntmps60
      go_wp2_with fail
      go_ret
      rw [e1.out]
      exact ⟨rfl, (H0.out.alloc _).mono (fun _ _ hk => Or.inl hk), (Frm.refl _ _).alloc _⟩
    | true =>
      have HD := Aside0.mk hdo
      have HE := Aside0.mk (fun args => enters_ hf hname hbody args)
      have HL := Aside0.mk hl
      have e0 := Aside0.mk (show st.change name true upd = if st.burn.2 = 0 then (upd st.burn.1 f, 0) else (st.burn.1, st.burn.2) by simp [Dsk.change, hl])
      clear hb hm hn hl h0 hf hname hbody hdo
      simp only [fileV] at hlk
      go_enter Tryz.func60, Tryz.ntmps60
      go_wp2_with fail
      refine rebase (fun W => DskAt W A d st ∧ Frm A w W ∧ (W.heap[w.heap.size]? = some (.cells #[.string f.b, .int .i64 f.sure] 98))) ⟨H0.out.alloc _, (Frm.refl _ _).alloc _, blk_new _ _⟩ ?_
      rintro w1 ⟨h1, f1, b1⟩
      have b0 : ¬ A w.heap.size := fun x => Nat.lt_irrefl _ (hA _ x)
      refine (disk_burn.calls w1 A d st h1).mono ?_
      rintro e w2 ⟨rfl, h2, f2⟩
      have b2 := f2.keeps b1 b0
      obtain ⟨d0, d1, dr⟩ := cells2 b2
      have H2 := Aside0.mk h2
      have F2 := Aside0.mk (f1.andThen f2 (fun i hi => Or.inl hi))
      clear h1 f1 b1 h2 f2 b2 c0 c1 c2 c3 fr hlk hA
      rcases burn_code st with hc | hc
      · have e1 := Aside0.mk (show st.change name true upd = (upd st.burn.1 f, 0) by rw [e0.out, if_pos hc])
        rw [hc]
        clear hc e0
        go_wp2_with fail
        rw [HE.out, Oper.upon_enter]
        refine (HD.out _ f HL.out (by trivial) H2.out F2.out).mono ?_
        rintro e w3 ⟨rfl, h3, f3⟩
        have H3 := Aside0.mk h3
        have F3 := Aside0.mk f3
        clear h3 f3 d0 d1 dr
        go_wp2_with fail
        go_ret
        rw [e1.out]
        exact ⟨rfl, H3.out.mono fun k _ hk => gr_mono F2.out.size k hk, F2.out.andThen F3.out (fun i hi => Or.inl hi)⟩
      · have e1 := Aside0.mk (show st.change name true upd = (st.burn.1, 8) by rw [e0.out, if_neg (by rw [hc]; decide), hc])
        rw [hc]
        clear hc e0
        go_wp2_with fail
        go_ret
        rw [e1.out]
        exact ⟨rfl, H2.out.mono fun k _ hk => Or.inl hk, F2.out⟩
end Go.Proofs.YthndpknocofioaaGreatDoor.Thw
/-! ## Layer 6: Sync, Remove, Rename, Cut. -/
namespace Go.Proofs.YthndpknocofioaaGreatDoor.Thw
open Go Go.RowKit Go.Proofs.YthndpknocofioaaGreatDoorW.PrintWords Go.Proofs.YthndpknocofioaaGreatDoorW.PrintLast Go.Proofs.YthndpknocofioaaGreatDoorW.PrintMore
attribute [local go_sem] max2_int min2_int max_two min_two
set_option linter.unusedVariables false
set_option linter.unusedSimpArgs false
set_option maxHeartbeats 3200000 in
set_option maxRecDepth 100000 in
theorem sync_do.calls (w : World) (A : Nat → Prop) (d : Nat) (st : Dsk) (h : DskAt w A d st) (f : DFile) (name : ByteArray) (hn : name.size ≤ 9223372036854775807) (pr pn : Nat) (hpr : w.heap[pr]? = some (.cells #[.pointer (some ⟨d, 0, none⟩)] 28)) (hpn : w.heap[pn]? = some (.cells #[.string name] 9)) :
    Calls Tryz.prog 76 #[fileV f, .pointer (some ⟨pr, 0, none⟩), .pointer (some ⟨pn, 0, none⟩)] w fun e w' => e = .returned (.tuple #[]) ∧ DskAt w' (gr A w) d { st with m := put st.m name ⟨f.b, f.b.size⟩ } ∧ Frm A w w' := by
  obtain ⟨mb, a1, a2, hb, hm⟩ := h
  have HB := Aside0.mk hb
  have HM := Aside0.mk hm
  have HPR := Aside0.mk hpr
  have HPN := Aside0.mk hpn
  have HK := Aside0.mk (strOk hn)
  clear hn
  clear hb hm hpr hpn
  unfold fileV
  go_enter Tryz.func76, Tryz.ntmps76
  go_wp2_with fail
  refine region_tail 11 (by kernel_rfl) (by kernel_rfl) (fun W => W.heap[pr]? = some (.cells #[.pointer (some ⟨d, 0, none⟩)] 28) ∧ W.heap[pn]? = some (.cells #[.string name] 9) ∧ W.heap[w.heap.size]? = some (.cells #[.string f.b, .int .i64 f.sure] 98) ∧ W.heap[d]? = some (.cells #[.int .i64 st.room, .map (some mb), .int .i64 st.fuse, .bool st.down] 90) ∧ MapOf Tryz.prog 9 Value.string fileV W mb st.m ∧ Frm A w W)
    ⟨blk_alloc HPR.out _, blk_alloc HPN.out _, blk_new w _, blk_alloc HB.out _, (HM.out.alloc _).drew, ((Frm.refl A w).alloc _).drew⟩ ?_
  rintro w2 ⟨x2, y0, z2, b2, m2, f2⟩
  obtain ⟨c0, c1, c2, c3, fr⟩ := cells4 b2
  obtain ⟨d0, d1, dr⟩ := cells2 z2
  obtain ⟨e0, er⟩ := cells1 x2
  obtain ⟨g0, gr0⟩ := cells1 y0
  have X2 := Aside0.mk x2
  have Z2 := Aside0.mk z2
  have B2 := Aside0.mk b2
  have M2 := Aside0.mk m2
  have F2 := Aside0.mk f2
  have Y0 := Aside0.mk y0
  clear x2 z2 b2 m2 f2 y0
  simp only [List.take_succ_cons, List.take_zero, List.drop_succ_cons, List.drop_zero]
  repeat still_step
  refine wpStill_nil ?_
  refine wpList_mapUpdate_of strInj strKeyed w2 rfl _ _ _ 88 98 rfl Tryz.underlying88 mb st.m rfl M2.out name rfl HK.out (⟨f.b, f.b.size⟩ : DFile) rfl ?_
  rintro w3 m3 f3 z3
  have M3 := Aside0.mk m3
  have F3 := Aside0.mk f3
  clear m3 f3 z3 c0 c1 c2 c3 fr d0 d1 dr e0 er g0 gr0
  go_wp2_with fail
  go_end0
  have hne := MapOf.ne M2.out B2.out
  exact ⟨rfl, ⟨mb, Or.inl a1, Or.inl a2, F3.out.keeps B2.out hne, M3.out⟩, F2.out.andThen F3.out (fun i e => by rw [e]; exact Or.inl a2)⟩
set_option maxHeartbeats 3200000 in
set_option maxRecDepth 100000 in
theorem remove_do.calls (w : World) (A : Nat → Prop) (d : Nat) (st : Dsk) (h : DskAt w A d st) (f : DFile) (name : ByteArray) (hn : name.size ≤ 9223372036854775807) (pr pn : Nat) (hpr : w.heap[pr]? = some (.cells #[.pointer (some ⟨d, 0, none⟩)] 28)) (hpn : w.heap[pn]? = some (.cells #[.string name] 9)) :
    Calls Tryz.prog 61 #[fileV f, .pointer (some ⟨pr, 0, none⟩), .pointer (some ⟨pn, 0, none⟩)] w fun e w' => e = .returned (.tuple #[]) ∧ DskAt w' (gr A w) d { st with m := del st.m name } ∧ Frm A w w' := by
  obtain ⟨mb, a1, a2, hb, hm⟩ := h
  have HB := Aside0.mk hb
  have HM := Aside0.mk hm
  have HPR := Aside0.mk hpr
  have HPN := Aside0.mk hpn
  have HK := Aside0.mk (strOk hn)
  clear hn
  clear hb hm hpr hpn
  unfold fileV
  go_enter Tryz.func61, Tryz.ntmps61
  go_wp2_with fail
  refine region_tail 5 (by kernel_rfl) (by kernel_rfl) (fun W => W.heap[pr]? = some (.cells #[.pointer (some ⟨d, 0, none⟩)] 28) ∧ W.heap[pn]? = some (.cells #[.string name] 9) ∧ W.heap[w.heap.size]? = some (.cells #[.string f.b, .int .i64 f.sure] 98) ∧ W.heap[d]? = some (.cells #[.int .i64 st.room, .map (some mb), .int .i64 st.fuse, .bool st.down] 90) ∧ MapOf Tryz.prog 9 Value.string fileV W mb st.m ∧ Frm A w W)
    ⟨blk_alloc HPR.out _, blk_alloc HPN.out _, blk_new w _, blk_alloc HB.out _, (HM.out.alloc _).drew, ((Frm.refl A w).alloc _).drew⟩ ?_
  rintro w2 ⟨x2, y0, z2, b2, m2, f2⟩
  obtain ⟨c0, c1, c2, c3, fr⟩ := cells4 b2
  obtain ⟨d0, d1, dr⟩ := cells2 z2
  obtain ⟨e0, er⟩ := cells1 x2
  obtain ⟨g0, gr0⟩ := cells1 y0
  have X2 := Aside0.mk x2
  have Z2 := Aside0.mk z2
  have B2 := Aside0.mk b2
  have M2 := Aside0.mk m2
  have F2 := Aside0.mk f2
  have Y0 := Aside0.mk y0
  clear x2 z2 b2 m2 f2 y0
  simp only [List.take_succ_cons, List.take_zero, List.drop_succ_cons, List.drop_zero]
  repeat still_step
  refine wpStill_nil ?_
  refine wpList_delete_of strInj strKeyed w2 rfl _ _ 88 98 _ rfl Tryz.underlying88 mb st.m rfl M2.out name rfl HK.out ?_
  rintro w3 m3 f3 z3
  have M3 := Aside0.mk m3
  have F3 := Aside0.mk f3
  clear m3 f3 z3 c0 c1 c2 c3 fr d0 d1 dr e0 er g0 gr0
  go_wp2_with fail
  go_end0
  have hne := MapOf.ne M2.out B2.out
  exact ⟨rfl, ⟨mb, Or.inl a1, Or.inl a2, F3.out.keeps B2.out hne, M3.out⟩, F2.out.andThen F3.out (fun i e => by rw [e]; exact Or.inl a2)⟩
set_option maxHeartbeats 3200000 in
set_option maxRecDepth 100000 in
theorem cut_do.calls (w : World) (A : Nat → Prop) (d : Nat) (st : Dsk) (h : DskAt w A d st) (f : DFile) (name : ByteArray) (hn : name.size ≤ 9223372036854775807) (n : Int) (h0 : 0 ≤ n) (h1 : n ≤ (f.b.size : Int)) (hsz : f.b.size ≤ 9223372036854775807) (pr pi pn : Nat) (hpr : w.heap[pr]? = some (.cells #[.pointer (some ⟨d, 0, none⟩)] 28)) (hpi : w.heap[pi]? = some (.cells #[.int .i64 n] 3)) (hpn : w.heap[pn]? = some (.cells #[.string name] 9)) :
    Calls Tryz.prog 99 #[fileV f, .pointer (some ⟨pi, 0, none⟩), .pointer (some ⟨pr, 0, none⟩), .pointer (some ⟨pn, 0, none⟩)] w fun e w' => e = .returned (.tuple #[]) ∧ DskAt w' (gr A w) d { st with m := put st.m name ⟨f.b.extract 0 n.toNat, mn f.sure n⟩ } ∧ Frm A w w' := by
  obtain ⟨mb, a1, a2, hb, hm⟩ := h
  have HB := Aside0.mk hb
  have HM := Aside0.mk hm
  have HPR := Aside0.mk hpr
  have HPI := Aside0.mk hpi
  have HPN := Aside0.mk hpn
  have HK := Aside0.mk (strOk hn)
  clear hn
  obtain ⟨z, hzz⟩ : ∃ z, mn f.sure n = z := ⟨_, rfl⟩
  have hz2 : (if n < f.sure then n else f.sure) = z := hzz
  have HZ := Aside0.mk hzz
  clear hzz
  clear hb hm hpr hpi hpn
  unfold fileV
  go_enter Tryz.func99, Tryz.ntmps99
  go_wp2_with fail
  refine region_tail 14 (by kernel_rfl) (by kernel_rfl) (fun W => W.heap[pr]? = some (.cells #[.pointer (some ⟨d, 0, none⟩)] 28) ∧ W.heap[pi]? = some (.cells #[.int .i64 n] 3) ∧ W.heap[pn]? = some (.cells #[.string name] 9) ∧ W.heap[w.heap.size]? = some (.cells #[.string f.b, .int .i64 f.sure] 98) ∧ W.heap[d]? = some (.cells #[.int .i64 st.room, .map (some mb), .int .i64 st.fuse, .bool st.down] 90) ∧ MapOf Tryz.prog 9 Value.string fileV W mb st.m ∧ Frm A w W)
    ⟨blk_alloc HPR.out _, blk_alloc HPI.out _, blk_alloc HPN.out _, blk_new w _, blk_alloc HB.out _, (HM.out.alloc _).drew, ((Frm.refl A w).alloc _).drew⟩ ?_
  rintro w2 ⟨x2, y0, y1, z2, b2, m2, f2⟩
  obtain ⟨c0, c1, c2, c3, fr⟩ := cells4 b2
  obtain ⟨d0, d1, dr⟩ := cells2 z2
  obtain ⟨e0, er⟩ := cells1 x2
  obtain ⟨g0, gr0⟩ := cells1 y0
  obtain ⟨g1, gr1⟩ := cells1 y1
  have X2 := Aside0.mk x2
  have Z2 := Aside0.mk z2
  have B2 := Aside0.mk b2
  have M2 := Aside0.mk m2
  have F2 := Aside0.mk f2
  have Y0 := Aside0.mk y0
  have Y1 := Aside0.mk y1
  clear x2 z2 b2 m2 f2 y0 y1
  simp only [List.take_succ_cons, List.take_zero, List.drop_succ_cons, List.drop_zero]
  repeat still_step
  refine wpStill_nil ?_
  refine wpList_mapUpdate_of strInj strKeyed w2 rfl _ _ _ 88 98 rfl Tryz.underlying88 mb st.m rfl M2.out name rfl HK.out (⟨f.b.extract 0 n.toNat, z⟩ : DFile) rfl ?_
  rintro w3 m3 f3 z3
  have M3 := Aside0.mk m3
  have F3 := Aside0.mk f3
  clear m3 f3 z3 c0 c1 c2 c3 fr d0 d1 dr e0 er g0 gr0 g1 gr1
  go_wp2_with fail
  go_end0
  have hne := MapOf.ne M2.out B2.out
  rw [HZ.out]
  exact ⟨rfl, ⟨mb, Or.inl a1, Or.inl a2, F3.out.keeps B2.out hne, M3.out⟩, F2.out.andThen F3.out (fun i e => by rw [e]; exact Or.inl a2)⟩
end Go.Proofs.YthndpknocofioaaGreatDoor.Thw
/-! ## Layer 6: the methods Sync, Remove, Rename, Cut, Append. -/
namespace Go.Proofs.YthndpknocofioaaGreatDoor.Thw
open Go Go.RowKit Go.Proofs.YthndpknocofioaaGreatDoorW.PrintWords Go.Proofs.YthndpknocofioaaGreatDoorW.PrintLast Go.Proofs.YthndpknocofioaaGreatDoorW.PrintMore
attribute [local go_sem] max2_int min2_int max_two min_two
set_option linter.unusedVariables false
set_option linter.unusedSimpArgs false
def updSync (name : ByteArray) (st : Dsk) (f : DFile) : Dsk := { st with m := put st.m name ⟨f.b, f.b.size⟩ }
def updRemove (name : ByteArray) (st : Dsk) (f : DFile) : Dsk := { st with m := del st.m name }
def updCut (name : ByteArray) (n : Int) (st : Dsk) (f : DFile) : Dsk := { st with m := put st.m name ⟨f.b.extract 0 n.toNat, mn f.sure n⟩ }
def Dsk.sync (st : Dsk) (name : ByteArray) : Dsk × Int := st.change name true (updSync name)
def Dsk.remove (st : Dsk) (name : ByteArray) : Dsk × Int := st.change name true (updRemove name)
def right (s : ByteArray) : Bool := !s.toList.isEmpty && decide ((s.size : Int) ≤ 20)
theorem change_post {w : World} {A : Nat → Prop} {d : Nat} {W w' : World} {st' : Dsk} (h : DskAt w' (gr (fun k => A k ∧ k < w.heap.size) W) d st') (hz : w.heap.size ≤ W.heap.size) : DskAt w' (gr A w) d st' :=
  h.mono fun k _ hk => hk.elim (fun x => Or.inl x.1) (fun x => Or.inr (Nat.le_trans hz x))

set_option maxHeartbeats 3200000 in
set_option maxRecDepth 100000 in
theorem disk_Sync.calls (w : World) (A : Nat → Prop) (d : Nat) (st : Dsk) (h : DskAt w A d st) (name : ByteArray) (hn : name.size ≤ 9223372036854775807) :
    Calls Tryz.prog 36 #[.pointer (some ⟨d, 0, none⟩), .string name] w fun e w' => e = .returned (.int .i64 (st.sync name).2) ∧ DskAt w' (gr A w) d (st.sync name).1 ∧ Frm A w w' := by
  have H0 := Aside0.mk h.bound
  have HN := Aside0.mk hn
  clear h hn
  go_enter Tryz.func36, Tryz.ntmps36
  go_wp2_with fail
  refine rebase (fun W => DskAt W (fun k => A k ∧ k < w.heap.size) d st ∧ Frm (fun k => A k ∧ k < w.heap.size) w W ∧ W.heap[w.heap.size]? = some (.cells #[.pointer (some ⟨d, 0, none⟩)] 28) ∧ W.heap[w.heap.size + 1]? = some (.cells #[.string name] 9))
    ⟨(H0.out.alloc _).alloc _, ((Frm.refl _ _).alloc _).alloc _, blk_alloc (blk_new _ _) _, by simpa using blk_new (w.alloc (.cells #[.pointer (some ⟨d, 0, none⟩)] 28)) _⟩ ?_
  rintro w1 ⟨h1, f1, p1, p2⟩
  have n1 : ¬ (A (w.heap.size + 1) ∧ w.heap.size + 1 < w.heap.size) := fun x => by omega
  have n0 : ¬ (A w.heap.size ∧ w.heap.size < w.heap.size) := fun x => by omega
  have hz := f1.size
  have HC := Aside0.mk (disk_change.calls w1 (fun k => A k ∧ k < w.heap.size) d st h1 (fun k hk => by omega) name HN.out true 76 _ Tryz.func76 (by kernel_rfl) (by kernel_rfl) #[.pointer (some ⟨w.heap.size, 0, none⟩), .pointer (some ⟨w.heap.size + 1, 0, none⟩)] (updSync name)
    (fun W f hf _ hW hF => sync_do.calls W _ d st.burn.1 hW f name HN.out w.heap.size (w.heap.size + 1) (hF.keeps p1 n0) (hF.keeps p2 n1)))
  refine HC.out.mono ?_
  rintro e w2 ⟨rfl, h2, f2⟩
  have H2 := Aside0.mk (change_post h2 hz)
  have F2 := Aside0.mk ((f1.andThen f2 (fun i hi => Or.inl hi)).mono (S' := A) fun k _ hk => hk.1)
  clear h1 f1 p1 p2 h2 f2 HC
  go_wp2_with fail
  go_ret
  exact ⟨rfl, H2.out, F2.out⟩

set_option maxHeartbeats 3200000 in
set_option maxRecDepth 100000 in
theorem disk_Remove.calls (w : World) (A : Nat → Prop) (d : Nat) (st : Dsk) (h : DskAt w A d st) (name : ByteArray) (hn : name.size ≤ 9223372036854775807) :
    Calls Tryz.prog 18 #[.pointer (some ⟨d, 0, none⟩), .string name] w fun e w' => e = .returned (.int .i64 (st.remove name).2) ∧ DskAt w' (gr A w) d (st.remove name).1 ∧ Frm A w w' := by
  have H0 := Aside0.mk h.bound
  have HN := Aside0.mk hn
  clear h hn
  go_enter Tryz.func18, Tryz.ntmps18
  go_wp2_with fail
  refine rebase (fun W => DskAt W (fun k => A k ∧ k < w.heap.size) d st ∧ Frm (fun k => A k ∧ k < w.heap.size) w W ∧ W.heap[w.heap.size]? = some (.cells #[.pointer (some ⟨d, 0, none⟩)] 28) ∧ W.heap[w.heap.size + 1]? = some (.cells #[.string name] 9))
    ⟨(H0.out.alloc _).alloc _, ((Frm.refl _ _).alloc _).alloc _, blk_alloc (blk_new _ _) _, by simpa using blk_new (w.alloc (.cells #[.pointer (some ⟨d, 0, none⟩)] 28)) _⟩ ?_
  rintro w1 ⟨h1, f1, p1, p2⟩
  have n1 : ¬ (A (w.heap.size + 1) ∧ w.heap.size + 1 < w.heap.size) := fun x => by omega
  have n0 : ¬ (A w.heap.size ∧ w.heap.size < w.heap.size) := fun x => by omega
  have hz := f1.size
  have HC := Aside0.mk (disk_change.calls w1 (fun k => A k ∧ k < w.heap.size) d st h1 (fun k hk => by omega) name HN.out true 61 _ Tryz.func61 (by kernel_rfl) (by kernel_rfl) #[.pointer (some ⟨w.heap.size, 0, none⟩), .pointer (some ⟨w.heap.size + 1, 0, none⟩)] (updRemove name)
    (fun W f hf _ hW hF => remove_do.calls W _ d st.burn.1 hW f name HN.out w.heap.size (w.heap.size + 1) (hF.keeps p1 n0) (hF.keeps p2 n1)))
  refine HC.out.mono ?_
  rintro e w2 ⟨rfl, h2, f2⟩
  have H2 := Aside0.mk (change_post h2 hz)
  have F2 := Aside0.mk ((f1.andThen f2 (fun i hi => Or.inl hi)).mono (S' := A) fun k _ hk => hk.1)
  clear h1 f1 p1 p2 h2 f2 HC
  go_wp2_with fail
  go_ret
  exact ⟨rfl, H2.out, F2.out⟩

end Go.Proofs.YthndpknocofioaaGreatDoor.Thw
/-! ## Layer 6: Cut. -/
namespace Go.Proofs.YthndpknocofioaaGreatDoor.Thw
open Go Go.RowKit Go.Proofs.YthndpknocofioaaGreatDoorW.PrintWords Go.Proofs.YthndpknocofioaaGreatDoorW.PrintLast Go.Proofs.YthndpknocofioaaGreatDoorW.PrintMore
attribute [local go_sem] max2_int min2_int max_two min_two
set_option linter.unusedVariables false
set_option linter.unusedSimpArgs false

def Dsk.sizeOf (st : Dsk) (name : ByteArray) : Nat := match look st.m name with | none => 0 | some f => f.b.size
def Dsk.mayCut (st : Dsk) (name : ByteArray) (n : Int) : Bool := decide (0 ≤ n) && decide (n ≤ (st.sizeOf name : Int))
def Dsk.cut (st : Dsk) (name : ByteArray) (n : Int) : Dsk × Int := st.change name (st.mayCut name n) (updCut name n)
set_option maxHeartbeats 6400000 in
set_option maxRecDepth 100000 in
theorem disk_Cut.calls (w : World) (A : Nat → Prop) (d : Nat) (st : Dsk) (h : DskAt w A d st) (name : ByteArray) (hn : name.size ≤ 9223372036854775807) (n : Int) (hsz : ∀ f, look st.m name = some f → f.b.size ≤ 9223372036854775807) :
    Calls Tryz.prog 63 #[.pointer (some ⟨d, 0, none⟩), .string name, .int .i64 n] w fun e w' => e = .returned (.int .i64 (st.cut name n).2) ∧ DskAt w' (gr A w) d (st.cut name n).1 ∧ Frm A w w' := by
  have hbd := h.bound
  obtain ⟨mb, a1, a2, hb, hm⟩ := h
  have HB := Aside0.mk hb
  have HM := Aside0.mk hm
  have H0 := Aside0.mk hbd
  have HN := Aside0.mk hn
  have HS := Aside0.mk hsz
  clear hb hm hbd hn hsz
  go_enter Tryz.func63, Tryz.ntmps63
  go_wp2_with fail
  refine region_tail 17 (by kernel_rfl) (by kernel_rfl) (fun W => DskAt W (fun k => A k ∧ k < w.heap.size) d st ∧ Frm (fun k => A k ∧ k < w.heap.size) w W ∧ W.heap[w.heap.size]? = some (.cells #[.pointer (some ⟨d, 0, none⟩)] 28) ∧ W.heap[w.heap.size + 1]? = some (.cells #[.string name] 9) ∧ W.heap[w.heap.size + 1 + 1]? = some (.cells #[.int .i64 n] 3) ∧ W.heap[d]? = some (.cells #[.int .i64 st.room, .map (some mb), .int .i64 st.fuse, .bool st.down] 90) ∧ MapOf Tryz.prog 9 Value.string fileV W mb st.m)
    ⟨(((H0.out.alloc _).alloc _).alloc _).drew, ((((Frm.refl _ _).alloc _).alloc _).alloc _).drew, blk_drew (blk_alloc (blk_alloc (blk_new _ _) _) _), blk_drew (by simpa using blk_alloc (blk_new (w.alloc (.cells #[.pointer (some ⟨d, 0, none⟩)] 28)) _) _), blk_drew (by simpa using blk_new ((w.alloc (.cells #[.pointer (some ⟨d, 0, none⟩)] 28)).alloc (.cells #[.string name] 9)) _), blk_drew (blk_alloc (blk_alloc (blk_alloc HB.out _) _) _), (((HM.out.alloc _).alloc _).alloc _).drew⟩ ?_
  rintro w1 ⟨h1, f1, p1, p2, p3, b1, m1⟩
  obtain ⟨c0, cr⟩ := cells1 p1
  obtain ⟨d0, dr⟩ := cells1 p2
  obtain ⟨e0, er⟩ := cells1 p3
  obtain ⟨g0, g1, g2, g3, gr'⟩ := cells4 b1
  have n2 : ¬ (A (w.heap.size + 1 + 1) ∧ w.heap.size + 1 + 1 < w.heap.size) := fun x => by omega
  have n1 : ¬ (A (w.heap.size + 1) ∧ w.heap.size + 1 < w.heap.size) := fun x => by omega
  have n0 : ¬ (A w.heap.size ∧ w.heap.size < w.heap.size) := fun x => by omega
  obtain ⟨may, hmay⟩ : ∃ may, st.mayCut name n = may := ⟨_, rfl⟩
  have HC := Aside0.mk (disk_change.calls w1 (fun k => A k ∧ k < w.heap.size) d st h1 (fun k hk => by have := f1.size; omega) name HN.out may 99 _ Tryz.func99 (by kernel_rfl) (by kernel_rfl) #[.pointer (some ⟨w.heap.size + 1 + 1, 0, none⟩), .pointer (some ⟨w.heap.size, 0, none⟩), .pointer (some ⟨w.heap.size + 1, 0, none⟩)] (updCut name n)
    (fun W f hf hm hW hF => by
      have hb : 0 ≤ n ∧ n ≤ (f.b.size : Int) := by
        rw [hm] at hmay
        simpa [Dsk.mayCut, Dsk.sizeOf, hf] using hmay
      exact cut_do.calls W _ d st.burn.1 hW f name HN.out n hb.1 hb.2 (HS.out f hf) w.heap.size (w.heap.size + 1 + 1) (w.heap.size + 1) (hF.keeps p1 n0) (hF.keeps p3 n2) (hF.keeps p2 n1)))
  have F1 := Aside0.mk f1
  have HL := Aside0.mk (MapOf.lookup strInj strKeyed m1 Tryz.underlying88 (strOk HN.out) (zeroFile w1) false)
  have EC := Aside0.mk (show st.cut name n = st.change name may (updCut name n) by rw [← hmay]; rfl)
  clear h1 f1 p1 p2 p3 n0 n1 n2 b1 m1
  simp only [List.take_succ_cons, List.take_zero, List.drop_succ_cons, List.drop_zero]
  refine WS.out ?_
  by_cases hn0 : n < 0
  · have hd : decide (0 ≤ n) = false := decide_eq_false (by omega)
    obtain rfl : false = may := by rw [← hmay]; simp [Dsk.mayCut, hd]
    clear hmay hn0
    refine ws_want (v := _) (a' := _) (by rfl) (by go_simp; rfl) (by simp only [Act.put, List.setIfInBounds_toArray, List.set_cons_zero, List.set_cons_succ]; rfl) ?_
    refine ws_want (v := _) (a' := _) (by rfl) (by go_simp; rfl) (by simp only [Act.put, List.setIfInBounds_toArray, List.set_cons_zero, List.set_cons_succ]; rfl) ?_
    refine ws_want (v := _) (a' := _) (by rfl) (by go_simp; rfl) (by simp only [Act.put, List.setIfInBounds_toArray, List.set_cons_zero, List.set_cons_succ]; rfl) ?_
    refine ws_want (v := _) (a' := _) (by rfl) (by go_simp; rfl) (by simp only [Act.put, List.setIfInBounds_toArray, List.set_cons_zero, List.set_cons_succ]; rfl) ?_
    refine ws_want (v := _) (a' := _) (by rfl) (by go_simp; rfl) (by simp only [Act.put, List.setIfInBounds_toArray, List.set_cons_zero, List.set_cons_succ]; rfl) ?_
    refine ws_skip (a' := _) (by rfl) (by simp only [Act.put, List.setIfInBounds_toArray, List.set_cons_zero, List.set_cons_succ]; rfl) ?_
    refine ws_skip (a' := _) (by rfl) (by simp only [Act.put, List.setIfInBounds_toArray, List.set_cons_zero, List.set_cons_succ]; rfl) ?_
    refine ws_skip (a' := _) (by rfl) (by simp only [Act.put, List.setIfInBounds_toArray, List.set_cons_zero, List.set_cons_succ]; rfl) ?_
    refine ws_skip (a' := _) (by rfl) (by simp only [Act.put, List.setIfInBounds_toArray, List.set_cons_zero, List.set_cons_succ]; rfl) ?_
    refine ws_skip (a' := _) (by rfl) (by simp only [Act.put, List.setIfInBounds_toArray, List.set_cons_zero, List.set_cons_succ]; rfl) ?_
    refine ws_skip (a' := _) (by rfl) (by simp only [Act.put, List.setIfInBounds_toArray, List.set_cons_zero, List.set_cons_succ]; rfl) ?_
    refine ws_skip (a' := _) (by rfl) (by simp only [Act.put, List.setIfInBounds_toArray, List.set_cons_zero, List.set_cons_succ]; rfl) ?_
    refine ws_skip (a' := _) (by rfl) (by simp only [Act.put, List.setIfInBounds_toArray, List.set_cons_zero, List.set_cons_succ]; rfl) ?_
    refine ws_skip (a' := _) (by rfl) (by simp only [Act.put, List.setIfInBounds_toArray, List.set_cons_zero, List.set_cons_succ]; rfl) ?_
    refine ws_skip (a' := _) (by rfl) (by simp only [Act.put, List.setIfInBounds_toArray, List.set_cons_zero, List.set_cons_succ]; rfl) ?_
    refine ws_want (v := _) (a' := _) (by rfl) (by go_simp; rfl) (by simp only [Act.put, List.setIfInBounds_toArray, List.set_cons_zero, List.set_cons_succ]; rfl) ?_
    refine ws_want (v := _) (a' := _) (by rfl) (by go_simp; rfl) (by simp only [Act.put, List.setIfInBounds_toArray, List.set_cons_zero, List.set_cons_succ]; rfl) ?_
    refine ws_nil ?_
    go_wp2_with fail
    refine HC.out.mono ?_
    rintro e w2 ⟨rfl, h2, f2⟩
    have H2 := Aside0.mk (change_post h2 F1.out.size)
    have F2 := Aside0.mk ((F1.out.andThen f2 (fun i hi => Or.inl hi)).mono (S' := A) fun k _ hk => hk.1)
    clear h2 f2 HC c0 cr d0 dr e0 er g0 g1 g2 g3 gr'
    go_wp2_with fail
    go_ret
    rw [EC.out]
    exact ⟨rfl, H2.out, F2.out⟩
  · have hd : decide (0 ≤ n) = true := decide_eq_true (by omega)
    obtain ⟨fb, fs, hfl, hfb⟩ : ∃ fb fs, (Instr.lookup 88 (.map (some mb)) (.string name) false).run Tryz.prog w1 = .ok (.agg #[.string fb, .int .i64 fs]) w1 ∧ st.sizeOf name = fb.size := by
      cases hl : look st.m name with
      | none => exact ⟨⟨#[]⟩, 0, by rw [HL.out, hl]; rfl, by (simp [Dsk.sizeOf, hl] <;> rfl)⟩
      | some f => exact ⟨f.b, f.sure, by rw [HL.out, hl]; rfl, by (simp [Dsk.sizeOf, hl] <;> rfl)⟩
    have HMY := Aside0.mk (show decide (n ≤ (fb.size : Int)) = may by rw [← hmay]; simp [Dsk.mayCut, hd, hfb])
    clear hmay hn0 hfb HL
    refine ws_want (v := _) (a' := _) (by rfl) (by go_simp; rfl) (by simp only [Act.put, List.setIfInBounds_toArray, List.set_cons_zero, List.set_cons_succ]; rfl) ?_
    refine ws_want (v := _) (a' := _) (by rfl) (by go_simp; rfl) (by simp only [Act.put, List.setIfInBounds_toArray, List.set_cons_zero, List.set_cons_succ]; rfl) ?_
    refine ws_want (v := _) (a' := _) (by rfl) (by go_simp; rfl) (by simp only [Act.put, List.setIfInBounds_toArray, List.set_cons_zero, List.set_cons_succ]; rfl) ?_
    refine ws_want (v := _) (a' := _) (by rfl) (by go_simp; rfl) (by simp only [Act.put, List.setIfInBounds_toArray, List.set_cons_zero, List.set_cons_succ]; rfl) ?_
    refine ws_want (v := _) (a' := _) (by rfl) (by go_simp; rfl) (by simp only [Act.put, List.setIfInBounds_toArray, List.set_cons_zero, List.set_cons_succ]; rfl) ?_
    refine ws_want (v := _) (a' := _) (by rfl) (by go_simp; rfl) (by simp only [Act.put, List.setIfInBounds_toArray, List.set_cons_zero, List.set_cons_succ]; rfl) ?_
    refine ws_want (v := _) (a' := _) (by rfl) (by go_simp; rfl) (by simp only [Act.put, List.setIfInBounds_toArray, List.set_cons_zero, List.set_cons_succ]; rfl) ?_
    refine ws_want (v := _) (a' := _) (by rfl) (by go_simp; rfl) (by simp only [Act.put, List.setIfInBounds_toArray, List.set_cons_zero, List.set_cons_succ]; rfl) ?_
    refine ws_want (v := _) (a' := _) (by rfl) (by go_simp; rfl) (by simp only [Act.put, List.setIfInBounds_toArray, List.set_cons_zero, List.set_cons_succ]; rfl) ?_
    refine ws_want (v := _) (a' := _) (by rfl) (by go_simp; rfl) (by simp only [Act.put, List.setIfInBounds_toArray, List.set_cons_zero, List.set_cons_succ]; rfl) ?_
    refine ws_want (v := _) (a' := _) (by rfl) (by go_simp; rfl) (by simp only [Act.put, List.setIfInBounds_toArray, List.set_cons_zero, List.set_cons_succ]; rfl) ?_
    refine ws_want (v := _) (a' := _) (by rfl) (by go_simp; rfl) (by simp only [Act.put, List.setIfInBounds_toArray, List.set_cons_zero, List.set_cons_succ]; rfl) ?_
    refine ws_want (v := _) (a' := _) (by rfl) (by go_simp; rfl) (by simp only [Act.put, List.setIfInBounds_toArray, List.set_cons_zero, List.set_cons_succ]; rfl) ?_
    refine ws_want (v := _) (a' := _) (by rfl) (by go_simp; rfl) (by simp only [Act.put, List.setIfInBounds_toArray, List.set_cons_zero, List.set_cons_succ]; rfl) ?_
    refine ws_want (v := _) (a' := _) (by rfl) (by go_simp; rfl) (by simp only [Act.put, List.setIfInBounds_toArray, List.set_cons_zero, List.set_cons_succ]; rfl) ?_
    refine ws_want (v := _) (a' := _) (by rfl) (by go_simp; rfl) (by simp only [Act.put, List.setIfInBounds_toArray, List.set_cons_zero, List.set_cons_succ]; rfl) ?_
    refine ws_want (v := _) (a' := _) (by rfl) (by go_simp; rfl) (by simp only [Act.put, List.setIfInBounds_toArray, List.set_cons_zero, List.set_cons_succ]; rfl) ?_
    refine ws_nil ?_
    go_wp2_with fail
    rw [HMY.out]
    refine HC.out.mono ?_
    rintro e w2 ⟨rfl, h2, f2⟩
    have H2 := Aside0.mk (change_post h2 F1.out.size)
    have F2 := Aside0.mk ((F1.out.andThen f2 (fun i hi => Or.inl hi)).mono (S' := A) fun k _ hk => hk.1)
    clear h2 f2 HC c0 cr d0 dr e0 er g0 g1 g2 g3 gr' hfl
    go_wp2_with fail
    go_ret
    rw [EC.out]
    exact ⟨rfl, H2.out, F2.out⟩
end Go.Proofs.YthndpknocofioaaGreatDoor.Thw
/-! ## Layer 6: Append. -/
namespace Go.Proofs.YthndpknocofioaaGreatDoor.Thw
open Go Go.RowKit Go.Proofs.YthndpknocofioaaGreatDoorW.PrintWords Go.Proofs.YthndpknocofioaaGreatDoorW.PrintLast Go.Proofs.YthndpknocofioaaGreatDoorW.PrintMore
attribute [local go_sem] max2_int min2_int max_two min_two
set_option linter.unusedVariables false
set_option linter.unusedSimpArgs false
def Dsk.fileOf (st : Dsk) (name : ByteArray) : DFile := match look st.m name with | none => ⟨⟨#[]⟩, 0⟩ | some f => f
def Dsk.append (st : Dsk) (name b : ByteArray) : Dsk × Int :=
  if right name = false then (st, 1) else if st.burn.2 = 8 then (st.burn.1, 8) else if st.burn.1.left < (b.size : Int) then (st.burn.1, 6)
  else ({ st.burn.1 with m := put st.burn.1.m name ⟨(st.burn.1.fileOf name).b ++ b, (st.burn.1.fileOf name).sure⟩ }, 0)
theorem burn_room (st : Dsk) : st.burn.1.room = st.room := by unfold Dsk.burn; split <;> rfl
theorem burn_m (st : Dsk) : st.burn.1.m = st.m := by unfold Dsk.burn; split <;> rfl
set_option maxHeartbeats 6400000 in
set_option maxRecDepth 100000 in
theorem disk_Append.calls (w : World) (A : Nat → Prop) (d : Nat) (st : Dsk) (h : DskAt w A d st) (name : ByteArray) (hn : name.size ≤ 9223372036854775807) (b : ByteArray) (hr : -9223372036854775808 ≤ st.room ∧ st.room ≤ 9223372036854775807) (hsz : (st.fileOf name).b.size + b.size ≤ 9223372036854775807) :
    Calls Tryz.prog 40 #[.pointer (some ⟨d, 0, none⟩), .string name, .string b] w fun e w' => e = .returned (.int .i64 (st.append name b).2) ∧ DskAt w' (gr A w) d (st.append name b).1 ∧ Frm A w w' := by
  have H0 := Aside0.mk h.bound
  have HN := Aside0.mk hn
  have HR := Aside0.mk hr
  have HZ := Aside0.mk hsz
  have h1 := disk_right.calls name w (right name) rfl
  have E0 := Aside0.mk (show st.append name b = if right name = false then (st, 1) else if st.burn.2 = 8 then (st.burn.1, 8) else if st.burn.1.left < (b.size : Int) then (st.burn.1, 6)
    else ({ st.burn.1 with m := put st.burn.1.m name ⟨(st.burn.1.fileOf name).b ++ b, (st.burn.1.fileOf name).sure⟩ }, 0) from rfl)
  generalize right name = rg at h1 E0
  have HRT := Aside0.mk h1
  clear h hn hr h1 hsz
  go_enter Tryz.func40, Tryz.ntmps40
  go_wp2_with fail
  refine HRT.out.mono ?_
  rintro e w0 ⟨rfl, rfl⟩
  cases rg with
  | false =>
    have E1 := Aside0.mk (show st.append name b = (st, 1) by rw [E0.out, if_pos rfl])
    go_wp2_with fail
    go_ret
    rw [E1.out]
    exact ⟨rfl, H0.out.mono (fun k _ hk => Or.inl hk.1), Frm.refl _ _⟩
  | true =>
    go_wp2_with fail
    refine (disk_burn.calls w0 _ d st H0.out).mono ?_
    rintro e w1 ⟨rfl, h1, f1⟩
    have H1 := Aside0.mk h1
    have F1 := Aside0.mk f1
    clear h1 f1
    rcases burn_code st with hc | hc
    · rw [hc]
      have hc8 : ¬ st.burn.2 = 8 := by rw [hc]; decide
      have E1 := Aside0.mk (show st.append name b = if st.burn.1.left < (b.size : Int) then (st.burn.1, 6) else ({ st.burn.1 with m := put st.burn.1.m name ⟨(st.burn.1.fileOf name).b ++ b, (st.burn.1.fileOf name).sure⟩ }, 0) by rw [E0.out, if_neg (by decide), if_neg hc8])
      clear hc hc8
      go_wp2_with fail
      refine (disk_Left.calls w1 _ d st.burn.1 H1.out (by rw [burn_room]; exact HR.out)).mono ?_
      rintro e w2 ⟨rfl, b2⟩
      have H2 := Aside0.mk (H1.out.below b2)
      have F2 := Aside0.mk (F1.out.andThen (Frm.of_new (S := None') b2) (fun i hi => hi.elim))
      clear b2
      by_cases hlt : st.burn.1.left < (b.size : Int)
      · have E2 := Aside0.mk (show st.append name b = (st.burn.1, 6) by rw [E1.out, if_pos hlt])
        have hd : decide (st.burn.1.left < (b.size : Int)) = true := decide_eq_true hlt
        clear hlt
        go_wp2_with fail
        go_ret
        rw [E2.out]
        exact ⟨rfl, H2.out.mono (fun k _ hk => Or.inl hk.1), F2.out.mono fun k _ hk => hk.1⟩
      · have E2 := Aside0.mk (show st.append name b = ({ st.burn.1 with m := put st.burn.1.m name ⟨(st.burn.1.fileOf name).b ++ b, (st.burn.1.fileOf name).sure⟩ }, 0) by rw [E1.out, if_neg hlt])
        have hd : decide (st.burn.1.left < (b.size : Int)) = false := decide_eq_false hlt
        clear hlt E0 E1 H1 HRT
        obtain ⟨s2, hs2⟩ : ∃ s2, s2 = st.burn.1 := ⟨_, rfl⟩
        rw [← hs2] at H2 E2 hd ⊢
        have HS2 := Aside0.mk hs2
        clear hs2
        obtain ⟨mb, a1, a2, hb, hm⟩ := H2.out
        obtain ⟨c0, c1, c2, c3, fr⟩ := cells4 hb
        have HB := Aside0.mk hb
        have HM := Aside0.mk hm
        obtain ⟨f, hfo⟩ : ∃ f, s2.fileOf name = f := ⟨_, rfl⟩
        have hlk : (Instr.lookup 88 (.map (some mb)) (.string name) false).run Tryz.prog w2 = .ok (.agg #[.string f.b, .int .i64 f.sure]) w2 := by
          cases hl : look s2.m name with
          | none =>
            have : f = ⟨⟨#[]⟩, 0⟩ := by rw [← hfo]; simp [Dsk.fileOf, hl]
            rw [this]
            exact MapOf.at_absent strInj strKeyed hm Tryz.underlying88 (strOk HN.out) (zeroFile w2) hl
          | some g =>
            have : f = g := by rw [← hfo]; simp [Dsk.fileOf, hl]
            rw [this]
            exact MapOf.at_found strInj strKeyed hm Tryz.underlying88 (strOk HN.out) (zeroFile w2) hl
        have hfs : f.b.size + b.size ≤ 9223372036854775807 := by
          have e : s2.fileOf name = st.fileOf name := by unfold Dsk.fileOf; rw [HS2.out, burn_m]
          rw [← hfo, e]; exact HZ.out
        rw [hfo] at E2
        clear hb hm hfo
        go_wp2_with fail
        refine region_tail 6 (by kernel_rfl) (by kernel_rfl) (fun W => W.heap[w2.heap.size]? = some (.cells #[.string (f.b ++ b), .int .i64 f.sure] 98) ∧ W.heap[d]? = some (.cells #[.int .i64 s2.room, .map (some mb), .int .i64 s2.fuse, .bool s2.down] 90) ∧ MapOf Tryz.prog 9 Value.string fileV W mb s2.m ∧ Frm (fun k => A k ∧ k < w0.heap.size) w0 W)
          ⟨blk_drew (blk_new _ _), blk_drew (blk_alloc HB.out _), (HM.out.alloc _).drew, (F2.out.alloc _).drew⟩ ?_
        clear c0 c1 c2 c3 fr hlk hd hfs
        rintro w3 ⟨z3, b3, m3, f3⟩
        obtain ⟨c0, c1, c2, c3, fr⟩ := cells4 b3
        obtain ⟨d0, d1, dr⟩ := cells2 z3
        have B3 := Aside0.mk b3
        have M3 := Aside0.mk m3
        have F3 := Aside0.mk f3
        clear z3 b3 m3 f3
        simp only [List.take_succ_cons, List.take_zero, List.drop_succ_cons, List.drop_zero]
        repeat still_step
        refine wpStill_nil ?_
        refine wpList_mapUpdate_of strInj strKeyed w3 rfl _ _ _ 88 98 rfl Tryz.underlying88 mb _ rfl M3.out name rfl (strOk HN.out) (⟨f.b ++ b, f.sure⟩ : DFile) rfl ?_
        rintro w4 m4 f4 z4
        have M4 := Aside0.mk m4
        have F4 := Aside0.mk f4
        clear m4 f4 z4 c0 c1 c2 c3 fr d0 d1 dr
        go_wp2_with fail
        go_ret
        have hne := MapOf.ne M3.out B3.out
        rw [E2.out]
        exact ⟨rfl, ⟨mb, Or.inl a1.1, Or.inl a2.1, F4.out.keeps B3.out hne, M4.out⟩, (F3.out.andThen F4.out (fun i e => by rw [e]; exact Or.inl a2)).mono fun k _ hk => hk.1⟩
    · rw [hc]
      have E1 := Aside0.mk (show st.append name b = (st.burn.1, 8) by rw [E0.out, if_neg (by decide), if_pos hc])
      clear hc
      go_wp2_with fail
      go_ret
      rw [E1.out]
      exact ⟨rfl, H1.out.mono (fun k _ hk => Or.inl hk.1), F1.out.mono fun k _ hk => hk.1⟩
end Go.Proofs.YthndpknocofioaaGreatDoor.Thw
/-! ## Layer 6: List. -/
namespace Go.Proofs.YthndpknocofioaaGreatDoor.Thw
open Go Go.RowKit Go.Maps Go.Proofs.YthndpknocofioaaGreatDoorW.PrintWords Go.Proofs.YthndpknocofioaaGreatDoorW.PrintLast Go.Proofs.YthndpknocofioaaGreatDoorW.PrintMore
attribute [local go_sem] max2_int min2_int max_two min_two
set_option linter.unusedVariables false
set_option linter.unusedSimpArgs false
theorem strinfo : (Tryz.prog.info? 9).map (fun i => (i.zero, i.size, i.bytes)) = some (some (.string ⟨#[]⟩), 1, 16) := by kernel_rfl
def names (m : List (ByteArray × DFile)) : List ByteArray := sorted (m.map (·.1))
theorem keys.calls (mb : Nat) (W : World) : Calls Tryz.prog 85 #[.map (some mb)] W fun e w' => e = .returned (.func (.func 123) #[] #[.pointer (some ⟨W.heap.size, 0, none⟩)]) ∧ w' = W.alloc (.cells #[.map (some mb)] 88) :=
  callsIn_wide.1 (Go.Proofs.Tryz.maps_Keys_85 (some mb) W)
theorem sortedKeys.calls (w : World) (mb : Nat) (m : List (ByteArray × DFile)) (h : MapOf Tryz.prog 9 Value.string fileV w mb m) (hlen : m.length ≤ 1000000) :
    Calls Tryz.prog 84 #[.func (.func 123) #[] #[.pointer (some ⟨w.heap.size, 0, none⟩)]] (w.alloc (.cells #[.map (some mb)] 88)) fun e w' =>
      ∃ v, e = .returned v ∧ Kd.string.R 9 w' w.heap.size (fun _ => True) v (names m) ∧ Below w.heap.size w w' := by
  obtain ⟨D0, hown, hsz, hp⟩ := h.owns Tryz.underlying9 (by unfold maxLen; omega)
  refine (callsIn_wide.1 (Go.Proofs.Tryz.slices_Sorted_keys_84_85 mb m.length D0 anyElem w hown (by rw [hsz]; unfold maxLen; omega) (by rw [hsz]; omega))).mono ?_
  rintro e w' ⟨v, ss, rfl, hperm, hrow, _, hb⟩
  refine ⟨v, rfl, ?_, ?_⟩
  · have := R_sorted (l := m.map (·.1)) hrow (by rw [List.map_map]; exact hperm.trans hp)
    exact Kd.R_lower this (by simp)
  · exact ((Below.refl _ w).alloc (Nat.le_refl _) _).trans (hb.mono (by simp))
theorem grown_below {a b : World} (h : a.grownBy b none) : Below a.heap.size a b := ⟨h.os, h.tape, h.output, h.size, fun k hk => h.block k hk (by simp)⟩
/-- A row of one's own, laid open. -/
theorem own_open {W : World} {base e n : Nat} {v : Value} {xs : List Value} (h : W.ownsRow base e 1 v n xs) (hv : ∃ b, v.ownBlock = some b) : ∃ g cap cur, v = .slice (some ⟨g, 0, none⟩) n cap ∧ base ≤ g ∧ W.heap[g]? = some (.cells (List.toArray cur) e (0, 0)) ∧ n ≤ cap ∧ cap ≤ maxLen ∧ cur.length = cap := by
  rcases h.2 with ⟨rfl, _⟩ | ⟨g, cap, cur, rfl, hb, hh, h1, h2, h3, _⟩
  · obtain ⟨b, hb⟩ := hv; simp [Value.ownBlock] at hb
  · exact ⟨g, cap, cur.toList, rfl, hb, by simpa using hh, h1, h2, by simpa using h3⟩
theorem splice_length (cur cs : List Value) (h : cs.length ≤ cur.length) : (splice cur 0 cs).length = cur.length := by simp [splice]; omega
theorem splice_all (cur cs : List Value) : (splice cur 0 cs).take cs.length = cs := by simp [splice]
set_option maxHeartbeats 3200000 in
set_option maxRecDepth 100000 in
theorem disk_List.calls (w : World) (A : Nat → Prop) (d : Nat) (st : Dsk) (h : DskAt w A d st) (hlen : st.m.length ≤ 1000000) :
    Calls Tryz.prog 44 #[.pointer (some ⟨d, 0, none⟩)] w fun e w' => ∃ v, e = .returned v ∧ Kd.string.R 9 w' w.heap.size (fun _ => True) v (names st.m) ∧ Below w.heap.size w w' := by
  obtain ⟨mb, a1, a2, hb, hm⟩ := h
  obtain ⟨c0, c1, c2, c3, fr⟩ := cells4 hb
  have HS := Aside0.mk (sortedKeys.calls w mb st.m hm hlen)
  have HN := Aside0.mk (show (names st.m).length = st.m.length by unfold names; rw [sorted_length, List.length_map])
  have HL := Aside0.mk hlen
  clear hb hm hlen
  go_enter Tryz.func44, Tryz.ntmps44
  go_wp2_with fail
  refine (keys.calls mb w).mono ?_
  rintro e w1 ⟨rfl, rfl⟩
  go_wp2_with fail
  refine HS.out.mono ?_
  rintro e w2 ⟨v, rfl, hR, hB⟩
  obtain ⟨A2, cc, rfl, hcc, hC⟩ := Kd.R_reads hR
  have HR := Aside0.mk hR
  have HB := Aside0.mk hB
  have HC := Aside0.mk hC
  clear hR hB hC c0 c1 c2 c3 fr HS
  go_wp2_with (first
    | ((with_reducible refine gate_dst (N := 13) rfl ?_); refine Kd.R_make Kd.string (w0 := w) w.heap.size 9 rfl (N := 13) rfl 73 _ _ rfl ((names st.m).length : Int) rfl rfl Tryz.underlying73 (.string ⟨#[]⟩) 16 strinfo rfl (by decide) (by decide) (⟨#[]⟩ : ByteArray) (ok := fun _ => True) (okp := fun _ => False) ?aM (fun _ x => x.elim) trivial ?a0 ?aL HB.out HB.out.size ?_; (case aM => exact rfl); (case a0 => omega); (case aL => have := HN.out; have := HL.out; omega); intro v1 w3 hR3 hB3 hg3 hv3; obtain ⟨g, cap, cur, rfl, hgb, hgh, hn1, hn2, hcl⟩ := own_open (Kd.own_of_R hR3) (by obtain ⟨b, hb, _⟩ := hv3; exact ⟨b, hb⟩); simp only [List.length_replicate, Int.toNat_natCast] at hn1 ⊢; have HG := Aside0.mk hgh; have HB3 := Aside0.mk hB3; have HC3 := Aside0.mk (Kd.C_below HC.out (grown_below hg3)); have HX := Aside0.mk (And.intro hgb (And.intro hn1 (And.intro hn2 hcl))); clear hR3 hB3 hg3 hv3 hgb hgh hn1 hn2 hcl)
    | ((with_reducible refine gate_dst (N := 16) rfl ?_); refine wpList_copy_splice rfl (.tmp 14) (.tmp 15) 73 73 rfl 9 Tryz.underlying73 (by kernel_rfl) (some ⟨g, 0, none⟩) A2 (names st.m).length cap (names st.m).length cc rfl rfl g 0 cur 9 HG.out (encs Value.string (names st.m)) ?cn ?cp ?cf ?c1 w.heap.size w HB3.out HX.out.1 ?_; (case cn => simp [encs]); (case cp => exact fun hp => ⟨rfl, by obtain ⟨_, _, hr⟩ := Kd.reads_of_C (d := (⟨#[]⟩ : ByteArray)) HC3.out; obtain ⟨ad, e, hc⟩ := hr (by simpa [encs] using hp); exact ⟨ad, e, fun j v hj => by rw [hc j (by have := (List.getElem?_eq_some_iff.1 hj).1; simpa [encs] using this)]; simpa [encs, List.getD_eq_getElem?_getD, List.getElem?_map, (show j < (names st.m).length by have := (List.getElem?_eq_some_iff.1 hj).1; simpa [encs] using this)] using hj⟩⟩); (case cf => have := HX.out; simp [encs]; omega); (case c1 => intro v hv; obtain ⟨x, _, rfl⟩ := List.mem_map.1 hv; rfl); intro w4 hg4 hb4; have HG4 := Aside0.mk hg4; have HB4 := Aside0.mk hb4; clear hg4 hb4))
  go_ret
  have hx := HX.out
  have hl : (encs Value.string (names st.m)).length = (names st.m).length := by simp [encs]
  refine ⟨_, rfl, Kd.R_of_own ⟨by simp [encs], Or.inr ⟨g, cap, _, rfl, hx.1, HG4.out, hx.2.1, hx.2.2.1, ?_, ?_⟩⟩ (fun _ _ => trivial), HB4.out⟩
  · rw [List.size_toArray, splice_length _ _ (by omega)]; omega
  · rw [Nat.mul_one, ← hl]; exact splice_all _ _
end Go.Proofs.YthndpknocofioaaGreatDoor.Thw
/-! ## Layer 6: Crash. -/
namespace Go.Proofs.YthndpknocofioaaGreatDoor.Thw
open Go Go.RowKit Go.Proofs.YthndpknocofioaaGreatDoorW.PrintWords Go.Proofs.YthndpknocofioaaGreatDoorW.PrintLast Go.Proofs.YthndpknocofioaaGreatDoorW.PrintMore
attribute [local go_sem] max2_int min2_int max_two min_two
set_option linter.unusedVariables false
set_option linter.unusedSimpArgs false
theorem R_frm {α : Type} {d : Kd α} {e : Nat} {w w1 : World} {base : Nat} {ok S : Nat → Prop} {v : Value} {xs : List α} (h : d.R e w base ok v xs) (hf : Frm S w w1) (hn : ∀ k, base ≤ k → ¬ S k) : d.R e w1 base ok v xs :=
  Kd.R_mono (Kd.R_step (Kd.R_bound h) (fun k ho hk => hf.block k hk (hn k ho.2.1))) (fun _ hk => hk.1)
theorem C_int {w : World} {A : Option Addr} {xs : List Int} (h : (Kd.int .i64).C w A xs.length xs) {k : Nat} (hk : k < xs.length) : ∃ ad, A = some ad ∧ w.cell? (ad.add k) = some (.int .i64 xs[k]) := by
  obtain ⟨ad, c, e, hl, hK, hc⟩ := ReadsRow.get_ h (0 : Int) (k : Int) (by omega) (by omega)
  have hK' : c = [Value.int .i64 (xs.getD k 0)] := hK
  subst hK'
  have := hc 0 _ rfl
  refine ⟨ad, e, ?_⟩
  simpa [Kd.int, Kd.scalar, List.getD_eq_getElem?_getD, List.getElem?_eq_getElem hk] using this
theorem C_str {w : World} {A : Option Addr} {xs : List ByteArray} (h : Kd.string.C w A xs.length xs) {k : Nat} (hk : k < xs.length) : ∃ ad, A = some ad ∧ w.cell? (ad.add k) = some (.string xs[k]) := by
  obtain ⟨ad, c, e, hl, hK, hc⟩ := ReadsRow.get_ h (⟨#[]⟩ : ByteArray) (k : Int) (by omega) (by omega)
  have hK' : c = [Value.string (xs.getD k ⟨#[]⟩)] := hK
  subst hK'
  have := hc 0 _ rfl
  refine ⟨ad, e, ?_⟩
  simpa [Kd.string, Kd.scalar, List.getD_eq_getElem?_getD, List.getElem?_eq_getElem hk] using this
abbrev Fls := List (ByteArray × DFile)
def GoodF (f : DFile) : Prop := 0 ≤ f.sure ∧ f.sure ≤ (f.b.size : Int) ∧ f.b.size ≤ 9223372036854775807
def GoodM (m : Fls) : Prop := ∀ p ∈ m, GoodF p.2
def fileIn (m : Fls) (name : ByteArray) : DFile := (look m name).getD ⟨⟨#[]⟩, 0⟩
def crashN (kept : List Int) (k : Nat) (f : DFile) : Int := if k < kept.length then mn (mx (kept.getD k 0) 0) ((f.b.size : Int) - f.sure) else 0
def crashF (kept : List Int) (k : Nat) (f : DFile) : DFile := ⟨f.b.extract 0 (f.sure + crashN kept k f).toNat, f.sure + crashN kept k f⟩
def crashM (kept : List Int) (ns : List ByteArray) : Nat → Fls → Fls
  | 0, m => m
  | j + 1, m => put (crashM kept ns j m) (ns.getD j ⟨#[]⟩) (crashF kept j (fileIn (crashM kept ns j m) (ns.getD j ⟨#[]⟩)))
theorem mem_look {m : Fls} {k : ByteArray} {f : DFile} (h : look m k = some f) : ∃ p ∈ m, p.2 = f := by
  unfold look at h
  obtain ⟨p, hp, e⟩ := Option.map_eq_some_iff.1 h
  exact ⟨p, List.mem_of_find?_eq_some hp, e⟩
theorem good_fileIn {m : Fls} (h : GoodM m) (k : ByteArray) : GoodF (fileIn m k) := by
  unfold fileIn
  cases hl : look m k with
  | none => exact ⟨Int.le_refl _, by simp, by simp [ByteArray.size]⟩
  | some f => obtain ⟨p, hp, rfl⟩ := mem_look hl; exact h p hp
theorem good_put {m : Fls} (h : GoodM m) (k : ByteArray) {f : DFile} (hf : GoodF f) : GoodM (put m k f) := by
  intro p hp
  unfold put at hp
  split at hp
  · obtain ⟨q, hq, e⟩ := List.mem_map.1 hp
    split at e
    · subst e; exact hf
    · subst e; exact h q hq
  · rcases List.mem_append.1 hp with hp | hp
    · exact h p hp
    · simp only [List.mem_singleton] at hp; subst hp; exact hf
theorem crashN_range (kept : List Int) (k : Nat) (f : DFile) (h : GoodF f) : 0 ≤ crashN kept k f ∧ crashN kept k f ≤ (f.b.size : Int) - f.sure := by
  obtain ⟨h1, h2, h3⟩ := h
  unfold crashN
  split
  · unfold mn mx
    split <;> split <;> omega
  · omega
theorem good_crashF (kept : List Int) (k : Nat) (f : DFile) (h : GoodF f) : GoodF (crashF kept k f) := by
  have hr := crashN_range kept k f h
  obtain ⟨h1, h2, h3⟩ := h
  have hs : (f.b.extract 0 (f.sure + crashN kept k f).toNat).size = (f.sure + crashN kept k f).toNat := by rw [ByteArray.size_extract]; omega
  refine ⟨?_, ?_, ?_⟩
  · show 0 ≤ f.sure + crashN kept k f; omega
  · show f.sure + crashN kept k f ≤ ((f.b.extract 0 (f.sure + crashN kept k f).toNat).size : Int); rw [hs]; omega
  · show (f.b.extract 0 (f.sure + crashN kept k f).toNat).size ≤ _; rw [hs]; omega
theorem good_crashM (kept : List Int) (ns : List ByteArray) (m : Fls) (h : GoodM m) : ∀ j, GoodM (crashM kept ns j m)
  | 0 => h
  | j + 1 => good_put (good_crashM kept ns m h j) _ (good_crashF _ _ _ (good_fileIn (good_crashM kept ns m h j) _))
def Dsk.crash (st : Dsk) (kept : List Int) : Dsk := { st with m := crashM kept (names st.m) (names st.m).length st.m, down := false, fuse := -1 }
set_option maxHeartbeats 6400000 in
set_option maxRecDepth 100000 in
theorem disk_Crash.calls (w : World) (A : Nat → Prop) (d : Nat) (st : Dsk) (h : DskAt w A d st) (hA : ∀ k, A k → k < w.heap.size) (hlen : st.m.length ≤ 1000000) (hg : GoodM st.m) (hns : ∀ s ∈ names st.m, s.size ≤ 9223372036854775807) (A' : Option Addr) (c' : Nat) (kept : List Int) (hk : ∀ W, Frm A w W → (Kd.int .i64).C W A' kept.length kept) (hc' : kept.length ≤ c') :
    Calls Tryz.prog 24 #[.pointer (some ⟨d, 0, none⟩), .slice A' kept.length c'] w fun e w' => e = .returned (.tuple #[]) ∧ DskAt w' A d (st.crash kept) ∧ Frm A w w' := by
  have H0 := Aside0.mk h
  have HG := Aside0.mk hg
  have HK := Aside0.mk hk
  have HS := Aside0.mk hns
  have HA := Aside0.mk hA
  have HL := Aside0.mk hlen
  have HN := Aside0.mk (show (names st.m).length = st.m.length by unfold names; rw [sorted_length, List.length_map])
  have HC' := Aside0.mk hc'
  have HKL := Aside0.mk (hk w (Frm.refl _ _)).2.1
  clear h hg hk hns hA hlen hc'
  go_enter Tryz.func24, Tryz.ntmps24
  go_wp2_with fail
  refine (disk_List.calls w A d st H0.out HL.out).mono ?_
  rintro e w1 ⟨v, rfl, hR, hB⟩
  obtain ⟨A2, cc, rfl, hcc, hC⟩ := Kd.R_reads hR
  have HR := Aside0.mk hR
  have HB := Aside0.mk hB
  have HD := Aside0.mk (H0.out.below hB)
  obtain ⟨ns, hns⟩ : ∃ ns, names st.m = ns := ⟨_, rfl⟩
  have E0 := Aside0.mk (show st.crash kept = { st with m := crashM kept ns ns.length st.m, down := false, fuse := -1 } by rw [← hns]; rfl)
  rw [hns] at HR HN HS hcc ⊢
  clear hR hB hC hns
  have hle : ns.length ≤ 1000000 := by have := HN.out; have := HL.out; omega
  go_wp2_with fail
  go_loopw [11] (fun v11 wr => ∃ j : Nat, j ≤ ns.length ∧ v11 = .int .i64 j ∧ Aside0 (DskAt wr A d { st with m := crashM kept ns j st.m }) ∧ Aside0 (Kd.string.R 9 wr w.heap.size (fun _ => True) (.slice A2 ns.length cc) ns) ∧ Aside0 (Frm A w wr)) (fun v11 _ => ns.length - (intOf v11).toNat)
  case atStart => exact ⟨0, Nat.zero_le _, rfl, HD, HR, ⟨Frm.of_new HB.out⟩⟩
  case round =>
    obtain ⟨j, hj, rfl, HD, HR, HF⟩ := hrel
    by_cases hjn : j < ns.length
    · have hkl := HKL.out
      obtain ⟨A3, c3, e3, _, hC⟩ := Kd.R_reads HR.out
      simp only [Value.slice.injEq] at e3
      obtain ⟨rfl, _, rfl⟩ := e3
      obtain ⟨ad, rfl, q0⟩ := C_str hC hjn
      obtain ⟨nm, hnm⟩ : ∃ nm, ns[j] = nm := ⟨_, rfl⟩
      have hnk : nm.size ≤ 9223372036854775807 := by rw [← hnm]; exact HS.out _ (List.getElem_mem _)
      rw [hnm] at q0
      have hgd : ns.getD j ⟨#[]⟩ = nm := by rw [List.getD_eq_getElem?_getD, List.getElem?_eq_getElem hjn, ← hnm]; rfl
      obtain ⟨f, hf⟩ : ∃ f, fileIn (crashM kept ns j st.m) nm = f := ⟨_, rfl⟩
      have hgf : GoodF f := by rw [← hf]; exact good_fileIn (good_crashM _ _ _ HG.out j) _
      have E1 := Aside0.mk (show crashM kept ns (j + 1) st.m = put (crashM kept ns j st.m) nm (crashF kept j f) by rw [← hf, ← hgd]; rfl)
      obtain ⟨mb, a1, a2, hb, hm⟩ := HD.out
      obtain ⟨c0, c1, c2, c3, fr⟩ := cells4 hb
      have hlk : (Instr.lookup 88 (.map (some mb)) (.string nm) false).run Tryz.prog wr = .ok (.agg #[.string f.b, .int .i64 f.sure]) wr := by
        cases hl : look (crashM kept ns j st.m) nm with
        | none =>
          have : f = ⟨⟨#[]⟩, 0⟩ := by rw [← hf]; simp [fileIn, hl]
          rw [this]
          exact MapOf.at_absent strInj strKeyed hm Tryz.underlying88 (strOk hnk) (zeroFile wr) hl
        | some g =>
          have : f = g := by rw [← hf]; simp [fileIn, hl]
          rw [this]
          exact MapOf.at_found strInj strKeyed hm Tryz.underlying88 (strOk hnk) (zeroFile wr) hl
      have HBK := Aside0.mk hb
      have HM := Aside0.mk hm
      have HNK := Aside0.mk hnk
      have HGF := Aside0.mk hgf
      clear hb hm hnm hgd hf hnk hgf hC
      by_cases hjk : j < kept.length
      · have hq := HK.out wr HF.out
        obtain ⟨ad1, rfl, q1⟩ := C_int hq hjk
        obtain ⟨kj, hkj⟩ : ∃ kj, kept[j] = kj := ⟨_, rfl⟩
        rw [hkj] at q1
        have E2 := Aside0.mk (show crashN kept j f = mn (mx kj 0) ((f.b.size : Int) - f.sure) by rw [crashN, if_pos hjk, List.getD_eq_getElem?_getD, List.getElem?_eq_getElem hjk, ← hkj]; rfl)
        have hkj := Aside0.mk hkj
        clear hq
        --REGION6
        obtain ⟨o1, o2, o3⟩ := HGF.out
        obtain ⟨z1, hz1⟩ : ∃ z1, mx kj 0 = z1 := ⟨_, rfl⟩
        obtain ⟨z2, hz2⟩ : ∃ z2, mn z1 ((f.b.size : Int) - f.sure) = z2 := ⟨_, rfl⟩
        replace E2 := Aside0.mk (show crashN kept j f = z2 by rw [E2.out, hz1, hz2])
        have hr := crashN_range kept j f HGF.out
        rw [E2.out] at hr
        have hsub : IntKind.i64.wrap ((f.b.size : Int) - f.sure) = (f.b.size : Int) - f.sure := IntWalk.i64_in _ (by omega)
        have hy1 : (if kj < 0 then 0 else kj) = z1 := hz1
        have hy2 : (if (f.b.size : Int) - f.sure < z1 then (f.b.size : Int) - f.sure else z1) = z2 := hz2
        clear hz1 hz2
        go_wp2_with fail
        refine region_still (by kernel_rfl) (by kernel_rfl) (fun W => W.heap[wr.heap.size]? = some (.cells #[.string f.b, .int .i64 f.sure] 98) ∧ W.heap[d]? = some (.cells #[.int .i64 st.room, .map (some mb), .int .i64 st.fuse, .bool st.down] 90) ∧ MapOf Tryz.prog 9 Value.string fileV W mb (crashM kept ns j st.m) ∧ Kd.string.R 9 W w.heap.size (fun _ => True) (.slice (some ad) ns.length cc) ns ∧ Frm A w W ∧ W.cell? (ad1.add j) = some (.int .i64 kj))
          ⟨blk_drew (blk_new _ _), blk_drew (blk_alloc HBK.out _), (HM.out.alloc _).drew, Kd.R_drew (Kd.R_alloc HR.out _), (HF.out.alloc _).drew, (HK.out _ (HF.out.alloc _).drew |> fun h => by obtain ⟨_, e, hq⟩ := C_int h hjk; cases e; rw [hkj.out] at hq; exact hq)⟩ ?_
        clear c0 c1 c2 c3 fr hlk q0 q1
        rintro w2 ⟨z2', b2, m2, r2, f2, q1⟩
        obtain ⟨c0, c1, c2, c3, fr⟩ := cells4 b2
        obtain ⟨d0, d1, dr⟩ := cells2 z2'
        have Z2 := Aside0.mk z2'
        have B2 := Aside0.mk b2
        have M2 := Aside0.mk m2
        have R2 := Aside0.mk r2
        have F2 := Aside0.mk f2
        clear z2' b2 m2 r2 f2
        repeat still_step
        refine wpStill_nil ?_
        have p1 : 0 ≤ f.sure + z2 := by omega
        have p2 : f.sure + z2 ≤ (f.b.size : Int) := by omega
        have hadd : IntKind.i64.wrap (f.sure + z2) = f.sure + z2 := IntWalk.i64_in _ (by omega)
        clear hr hy1 hy2 hsub
        go_wp2_with fail
        refine region_tail 17 (by kernel_rfl) (by kernel_rfl) (fun W => W.heap[wr.heap.size]? = some (.cells #[.string f.b, .int .i64 f.sure] 98) ∧ W.heap[d]? = some (.cells #[.int .i64 st.room, .map (some mb), .int .i64 st.fuse, .bool st.down] 90) ∧ MapOf Tryz.prog 9 Value.string fileV W mb (crashM kept ns j st.m) ∧ Kd.string.R 9 W w.heap.size (fun _ => True) (.slice (some ad) ns.length cc) ns ∧ Frm A w W)
          ⟨Z2.out, B2.out, M2.out.drew, Kd.R_drew R2.out, F2.out.drew⟩ ?_
        clear c0 c1 c2 c3 fr d0 d1 dr q1
        rintro w3 ⟨z3, b3, m3, r3, f3⟩
        obtain ⟨c0, c1, c2, c3, fr⟩ := cells4 b3
        obtain ⟨d0, d1, dr⟩ := cells2 z3
        have B3 := Aside0.mk b3
        have M3 := Aside0.mk m3
        have R3 := Aside0.mk r3
        have F3 := Aside0.mk f3
        clear z3 b3 m3 r3 f3
        simp only [List.take_succ_cons, List.take_zero, List.drop_succ_cons, List.drop_zero]
        repeat still_step
        refine wpStill_nil ?_
        refine wpList_mapUpdate_of strInj strKeyed w3 rfl _ _ _ 88 98 rfl Tryz.underlying88 mb _ rfl M3.out nm rfl (strOk HNK.out) (⟨f.b.extract 0 (f.sure + z2).toNat, f.sure + z2⟩ : DFile) rfl ?_
        rintro w4 m4 f4 z4
        have hne := MapOf.ne M3.out B3.out
        have EF := Aside0.mk (show crashF kept j f = ⟨f.b.extract 0 (f.sure + z2).toNat, f.sure + z2⟩ by unfold crashF; rw [E2.out])
        have HD4 := Aside0.mk (show DskAt w4 A d { st with m := crashM kept ns (j + 1) st.m } from ⟨mb, a1, a2, f4.keeps B3.out hne, by rw [E1.out, EF.out]; exact m4⟩)
        have HR4 := Aside0.mk (R_frm R3.out f4 (fun k hk e => by have := HA.out _ a2; omega))
        have HF4 := Aside0.mk (F3.out.andThen f4 (fun i e => by rw [e]; exact Or.inl a2))
        clear hadd m4 f4 z4 c0 c1 c2 c3 fr d0 d1 dr p1 p2 o1 o2 o3
        go_wp2_with fail
        go_roundw
        case rel => exact ⟨j + 1, by omega, by go_num, HD4, HR4, HF4⟩
        case measure => simp [intOf]; omega
      · have E2 := Aside0.mk (show crashN kept j f = 0 by rw [crashN, if_neg hjk])
        obtain ⟨o1, o2, o3⟩ := HGF.out
        have p1 : 0 ≤ f.sure := o1
        have p2 : f.sure ≤ (f.b.size : Int) := o2
        have hadd : IntKind.i64.wrap f.sure = f.sure := IntWalk.i64_in _ (by omega)
        go_wp2_with fail
        refine region_tail 17 (by kernel_rfl) (by kernel_rfl) (fun W => W.heap[wr.heap.size]? = some (.cells #[.string f.b, .int .i64 f.sure] 98) ∧ W.heap[d]? = some (.cells #[.int .i64 st.room, .map (some mb), .int .i64 st.fuse, .bool st.down] 90) ∧ MapOf Tryz.prog 9 Value.string fileV W mb (crashM kept ns j st.m) ∧ Kd.string.R 9 W w.heap.size (fun _ => True) (.slice (some ad) ns.length cc) ns ∧ Frm A w W)
          ⟨blk_drew (blk_new _ _), blk_drew (blk_alloc HBK.out _), (HM.out.alloc _).drew, Kd.R_drew (Kd.R_alloc HR.out _), (HF.out.alloc _).drew⟩ ?_
        clear c0 c1 c2 c3 fr hlk q0
        rintro w3 ⟨z3, b3, m3, r3, f3⟩
        obtain ⟨c0, c1, c2, c3, fr⟩ := cells4 b3
        obtain ⟨d0, d1, dr⟩ := cells2 z3
        have B3 := Aside0.mk b3
        have M3 := Aside0.mk m3
        have R3 := Aside0.mk r3
        have F3 := Aside0.mk f3
        clear z3 b3 m3 r3 f3
        simp only [List.take_succ_cons, List.take_zero, List.drop_succ_cons, List.drop_zero]
        repeat still_step
        refine wpStill_nil ?_
        refine wpList_mapUpdate_of strInj strKeyed w3 rfl _ _ _ 88 98 rfl Tryz.underlying88 mb _ rfl M3.out nm rfl (strOk HNK.out) (⟨f.b.extract 0 (f.sure).toNat, f.sure⟩ : DFile) rfl ?_
        rintro w4 m4 f4 z4
        have hne := MapOf.ne M3.out B3.out
        have EF := Aside0.mk (show crashF kept j f = ⟨f.b.extract 0 (f.sure).toNat, f.sure⟩ by unfold crashF; rw [E2.out]; simp)
        have HD4 := Aside0.mk (show DskAt w4 A d { st with m := crashM kept ns (j + 1) st.m } from ⟨mb, a1, a2, f4.keeps B3.out hne, by rw [E1.out, EF.out]; exact m4⟩)
        have HR4 := Aside0.mk (R_frm R3.out f4 (fun k hk e => by have := HA.out _ a2; omega))
        have HF4 := Aside0.mk (F3.out.andThen f4 (fun i e => by rw [e]; exact Or.inl a2))
        clear hadd m4 f4 z4 c0 c1 c2 c3 fr d0 d1 dr p1 p2 o1 o2 o3
        go_wp2_with fail
        go_roundw
        case rel => exact ⟨j + 1, by omega, by go_num, HD4, HR4, HF4⟩
        case measure => simp [intOf]; omega
    · have hjj : j = ns.length := by omega
      subst hjj
      obtain ⟨mb, a1, a2, hb, hm⟩ := HD.out
      obtain ⟨c0, c1, c2, c3, fr⟩ := cells4 hb
      have HB2 := Aside0.mk hb
      have HM2 := Aside0.mk hm
      clear hb hm
      go_wp2_with fail
      go_end0
      have hne := MapOf.ne HM2.out HB2.out
      rw [E0.out]
      have h2 := blk_set (blk_set HB2.out 3 (.bool false)) 2 (.int .i64 (-1))
      exact ⟨rfl, ⟨mb, a1, a2, by simpa using h2, (HM2.out.frm ((Frm.refl (fun i => i = d) _).setCell (p := ⟨d, 3, none⟩) (Or.inl rfl) (.bool false)) (fun e => hne e.symm)).frm ((Frm.refl (fun i => i = d) _).setCell (p := ⟨d, 2, none⟩) (Or.inl rfl) (.int .i64 (-1))) (fun e => hne e.symm)⟩, (HF.out.setCell (Or.inl a1) _).setCell (Or.inl a1) _⟩
end Go.Proofs.YthndpknocofioaaGreatDoor.Thw
