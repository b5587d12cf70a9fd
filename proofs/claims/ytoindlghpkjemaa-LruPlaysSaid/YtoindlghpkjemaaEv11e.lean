/- Layer 11: New, Blocks. -/
import Derived.Test.YtoindlghpkjemaaEv11d
namespace Go.Proofs.Ytoindlghpkjemaa.Thw
open Go Go.RowKit Go.Proofs.YtoindlghpkjemaaW.PrintWords Go.Proofs.YtoindlghpkjemaaW.PrintLast Go.Proofs.YtoindlghpkjemaaW.PrintMore
set_option linter.unusedVariables false
set_option linter.unusedSimpArgs false
def chkI : Option Value → Bool
  | some (.int .i64 n) => n == 0
  | _ => false
def chkS : Option Value → Bool
  | some (.string s) => s.size == 0
  | _ => false
theorem chkI_eq {o : Option Value} (h : chkI o = true) : o = some (.int .i64 0) := by
  unfold chkI at h
  split at h
  · rename_i n
    have : n = 0 := by simpa using h
    rw [this]
  · cases h
theorem chkS_eq {o : Option Value} (h : chkS o = true) : o = some (.string ⟨#[]⟩) := by
  unfold chkS at h
  split at h
  · rename_i s
    have h2 : s.size = 0 := by simpa using h
    have h3 : s = ⟨#[]⟩ := by
      obtain ⟨a⟩ := s
      congr
      exact Array.eq_empty_of_size_eq_zero h2
    rw [h3]
  · cases h
theorem zero_items : ∀ i, i < 64 → ItC Try.zeroCells91 i It.zero := by
  have h : ((List.range 64).all fun i => chkI Try.zeroCells91[1 + i * 5]? && chkI Try.zeroCells91[1 + i * 5 + 1]? && chkS Try.zeroCells91[1 + i * 5 + 2]? && chkI Try.zeroCells91[1 + i * 5 + 3]? && chkI Try.zeroCells91[1 + i * 5 + 4]?) = true := by kernel_rfl
  intro i hi
  have h2 := List.all_eq_true.1 h i (List.mem_range.2 hi)
  simp only [Bool.and_eq_true] at h2
  obtain ⟨⟨⟨⟨a, b⟩, c⟩, d⟩, e⟩ := h2
  exact ⟨chkI_eq a, chkI_eq b, chkS_eq c, chkI_eq d, chkI_eq e⟩
theorem LruArr.new (most : Int) (mb : Nat) : LruArr ((((Try.zeroCells91.setIfInBounds 0 (.int .i64 most)).setIfInBounds 322 (.map (some mb))).setIfInBounds 323 (.int .i64 (-1))).setIfInBounds 324 (.int .i64 (-1))) ⟨most, fun _ => It.zero, [], [], -1, -1⟩ (.slice none 0 0) (.map (some mb)) := by
  have hs : Try.zeroCells91.size = 325 := by kernel_rfl
  have hf : Try.zeroCells91[321]? = some (.slice none 0 0) := by kernel_rfl
  have hz := zero_items
  generalize Try.zeroCells91 = z at hs hf hz
  have k : ∀ j, j ≠ 0 → j ≠ 322 → j ≠ 323 → j ≠ 324 → ((((z.setIfInBounds 0 (.int .i64 most)).setIfInBounds 322 (.map (some mb))).setIfInBounds 323 (.int .i64 (-1))).setIfInBounds 324 (.int .i64 (-1)))[j]? = z[j]? := fun j h1 h2 h3 h4 => by
    rw [Array.getElem?_setIfInBounds_ne (fun e => h4 e.symm), Array.getElem?_setIfInBounds_ne (fun e => h3 e.symm), Array.getElem?_setIfInBounds_ne (fun e => h2 e.symm), Array.getElem?_setIfInBounds_ne (fun e => h1 e.symm)]
  refine ⟨by simp [hs], ?_, fun i hi => ?_, by rw [k _ (by omega) (by omega) (by omega) (by omega)]; exact hf, ?_, ?_, ?_⟩
  · rw [Array.getElem?_setIfInBounds_ne (by omega), Array.getElem?_setIfInBounds_ne (by omega), Array.getElem?_setIfInBounds_ne (by omega), Array.getElem?_setIfInBounds_self_of_lt (by omega)]
  · obtain ⟨i0, i1, i2, i3, i4⟩ := hz i hi
    exact ⟨by rw [k _ (by omega) (by omega) (by omega) (by omega)]; exact i0, by rw [k _ (by omega) (by omega) (by omega) (by omega)]; exact i1, by rw [k _ (by omega) (by omega) (by omega) (by omega)]; exact i2, by rw [k _ (by omega) (by omega) (by omega) (by omega)]; exact i3, by rw [k _ (by omega) (by omega) (by omega) (by omega)]; exact i4⟩
  · rw [Array.getElem?_setIfInBounds_ne (by omega), Array.getElem?_setIfInBounds_ne (by omega), Array.getElem?_setIfInBounds_self_of_lt (by simp; omega)]
  · rw [Array.getElem?_setIfInBounds_ne (by omega), Array.getElem?_setIfInBounds_self_of_lt (by simp; omega)]
  · rw [Array.getElem?_setIfInBounds_self_of_lt (by simp; omega)]
def fl0 (k : Nat) : List Int := (List.range k).map (fun i : Nat => (i : Int))
def c0 (most : Int) (k : Nat) : Lc := ⟨most, fun _ => It.zero, fl0 k, [], -1, -1⟩
theorem c0_ok (most : Int) (h1 : 1 ≤ most) (h64 : most ≤ 64) : (c0 most most.toNat).Ok [] (List.range most.toNat) :=
  ⟨⟨List.nodup_nil, rfl, rfl⟩, rfl, by simpa using List.nodup_range, fun i hi => by rw [List.nil_append] at hi; have := List.mem_range.1 hi; omega, by simp [c0]; omega, ⟨h1, h64⟩, fun b i => by simp [c0, look_nil]⟩
def NewPost11 (most : Int) (w : World) (e : Ending) (w' : World) : Prop :=
  (¬ (1 ≤ most ∧ most ≤ 64) ∧ e = .returned (.tuple #[.pointer none, .int .i64 1]) ∧ w = w') ∨
  ((1 ≤ most ∧ most ≤ 64) ∧ ∃ p c l fs, e = .returned (.tuple #[.pointer (some ⟨p, 0, none⟩), .int .i64 0]) ∧ Cch w' (fun k => w.heap.size ≤ k) p c l fs ∧ c.abs l = [] ∧ c.most = most ∧ Below w.heap.size w w')
/-- A number's own row. -/
theorem lit_row (w : World) (i : Int) : (Kd.int .i64).C (w.alloc (.cells #[.int .i64 i] 3)) (some ⟨w.heap.size, 0, none⟩) 1 [i] := by
  have R0 : (Kd.int .i64).R 3 (w.alloc (.cells #[.int .i64 i] 3)) w.heap.size (fun _ => True) (.slice (some ⟨w.heap.size, 0, none⟩) 1 1) [i] :=
    Kd.R_of_own (own_lit_of (enc := Value.int .i64) w w.heap.size 3 [i] (Nat.le_refl _) (by simp)) (fun _ _ => trivial)
  obtain ⟨A1, c1, e1, _, hC1⟩ := Kd.R_reads R0
  simp only [Value.slice.injEq, List.length_singleton] at e1
  obtain ⟨rfl, _, _⟩ := e1
  exact hC1
theorem fl0_succ (k : Nat) : fl0 (k + 1) = fl0 k ++ [(k : Int)] := by simp [fl0, List.range_succ]
set_option maxHeartbeats 6400000 in
set_option maxRecDepth 100000 in
theorem lru_New.calls (w : World) (most : Int) : Calls Try.prog 24 #[.int .i64 most] w (NewPost11 most w) := by
  have hmm := @run_makeMap Try.prog
  by_cases h1 : 1 ≤ most
  case neg =>
    have d1 : decide (most < 1) = true := decide_eq_true (by omega)
    go_enter Try.func24, Try.ntmps24
    go_wp2_with fail
    go_ret2
    exact Or.inl ⟨by omega, rfl, rfl⟩
  have d1 : decide (most < 1) = false := decide_eq_false (by omega)
  by_cases h64 : most ≤ 64
  case neg =>
    have d2 : decide (64 < most) = true := decide_eq_true (by omega)
    go_enter Try.func24, Try.ntmps24
    go_wp2_with fail
    go_ret2
    exact Or.inl ⟨by omega, rfl, rfl⟩
  have d2 : decide (64 < most) = false := decide_eq_false (by omega)
  obtain ⟨n, rfl⟩ : ∃ n : Nat, most = (n : Int) := ⟨most.toNat, by omega⟩
  have H0 := Aside0.mk (show LruAt ((w.alloc (.map #[] 0)).alloc (.cells ((((Try.zeroCells91.setIfInBounds 0 (.int .i64 n)).setIfInBounds 322 (.map (some w.heap.size))).setIfInBounds 323 (.int .i64 (-1))).setIfInBounds 324 (.int .i64 (-1))) 91)) (fun k => w.heap.size ≤ k) (w.heap.size + 1) (c0 n 0) from
    ⟨_, _, w.heap.size, by simp, Nat.le_refl _, by rw [show w.heap.size + 1 = (w.alloc (.map #[] 0)).heap.size by simp]; exact blk_new _ _, LruArr.new n w.heap.size, (MapOf.made w).alloc _, Kd.R_nil _ _ _ _ _⟩)
  have B0 := Aside0.mk (show Below w.heap.size w ((w.alloc (.map #[] 0)).alloc (.cells ((((Try.zeroCells91.setIfInBounds 0 (.int .i64 n)).setIfInBounds 322 (.map (some w.heap.size))).setIfInBounds 323 (.int .i64 (-1))).setIfInBounds 324 (.int .i64 (-1))) 91)) from
    ((Below.refl _ _).alloc (Nat.le_refl _) _).alloc (by simp) _)
  go_enter Try.func24, Try.ntmps24
  go_wp2_with fail
  go_loopw [17] (fun v17 wr => ∃ k : Nat, k ≤ n ∧ v17 = .int .i64 k ∧ Aside0 (LruAt wr (fun k => w.heap.size ≤ k) (w.heap.size + 1) (c0 n k)) ∧ Aside0 (Below w.heap.size w wr)) (fun v17 _ => n - (intOf v17).toNat)
  case atStart => exact ⟨0, Nat.zero_le _, rfl, H0, B0⟩
  case round =>
    obtain ⟨k, hk, rfl, H, B⟩ := hrel
    by_cases hkn : k < n
    · have dk : decide ((k : Int) < (n : Int)) = true := decide_eq_true (by omega)
      obtain ⟨s0, s1, s2, s3⟩ := H.out.see
      obtain ⟨fv, mb, amb, q1, q2, q3, q4, q5⟩ := H.out.parts
      obtain ⟨A0, cap0, rfl⟩ := Kd.R_slice q4
      have R4 := Aside0.mk (Kd.R_mono (Kd.R_alloc q4 (.cells #[.int .i64 k] 3)) (fun j hj => (Or.inl hj.1 : gr (fun k => w.heap.size ≤ k) (wr.alloc (.cells #[.int .i64 k] 3)) j)))
      have HLIT := Aside0.mk (lit_row wr k)
      have HLEN := Aside0.mk (show ((c0 (n : Int) k).fl.length + 1) * 8 ≤ 140737488355328 by simp [c0, fl0]; omega)
      have QF := Aside0.mk q1
      clear q2 q3 q4 q5
      go_wp2_with (at_builtin; refine Kd.R_append_row (Value.int .i64) 0 (w0 := wr.alloc (.cells #[.int .i64 k] 3)) 0 rfl (.tmp 24) (.tmp 26) 23 3 (.int .i64 0) 8 rfl Try.underlying23 intinfo rfl (by decide) (.slice A0 (c0 (n : Int) k).fl.length cap0) (c0 (n : Int) k).fl [(k : Int)] (some ⟨wr.heap.size, 0, none⟩) 1 1 (gr (fun k => w.heap.size ≤ k) (wr.alloc (.cells #[.int .i64 k] 3))) rfl rfl (fun j hj => Or.inr hj) R4.out HLIT.out (Below.refl _ _) (Nat.zero_le _) HLEN.out ?_; intro v1 w5 hR hB hg hat; obtain ⟨A1, c1, rfl⟩ := Kd.R_slice hR; obtain ⟨h6, f6, x6, y6⟩ := (H.out.alloc (.cells #[.int .i64 k] 3)).regrown ((World.cell?_of_block (a := ⟨w.heap.size + 1, 321, none⟩) (Below.heap_alloc wr _ _ H.out.lt)).trans QF.out) hg hR; simp only [List.length_append, List.length_singleton] at h6 f6; have H6 := Aside0.mk h6; have F6 := Aside0.mk f6; clear hR hB hg hat h6 f6)
      go_roundw
      case rel =>
        refine ⟨k + 1, by omega, by go_num, ⟨?_⟩, ⟨(B.out.alloc B.out.size _).trans (F6.out.below (by have := B.out.size; simp; omega) (fun i _ hi => hi))⟩⟩
        have e : c0 (n : Int) (k + 1) = { c0 (n : Int) k with fl := (c0 (n : Int) k).fl ++ [(k : Int)] } := by simp [c0, fl0_succ]
        rw [e]
        exact H6.out.mono fun j _ hj => hj.elim id (fun hj => Nat.le_trans (by have := B.out.size; simp; omega) hj)
      case measure => simp [intOf]; omega
    · have dk : decide ((k : Int) < (n : Int)) = false := decide_eq_false (by omega)
      have hkk : k = n := by omega
      subst hkk
      go_wp2_with fail
      go_ret2
      have hok := c0_ok (k : Int) h1 h64
      exact Or.inr ⟨⟨h1, h64⟩, _, c0 k k, [], List.range k, rfl, ⟨H.out, by simpa using hok, fun i hi => by simp at hi⟩, rfl, rfl, B.out⟩

/-! ### Blocks -/
abbrev kB : Kd Bk := Kd.pair (Kd.int .i64) (Kd.int .i64)
def nxtOf : List Nat → Int
  | [] => -1
  | i :: _ => (i : Int)
theorem Sg.next {it : Nat → It} {a d : List Nat} {i : Nat} {f t : Int} (h : Sg it (-1) (a ++ i :: d) f t (-1)) : (it i).older = nxtOf d := by
  rw [Sg.append] at h
  obtain ⟨m, u, _, _, _, h3⟩ := h
  have := h3.first
  cases d with
  | nil => exact this
  | cons q d => exact this
def slLen : Value → Nat
  | .slice _ n _ => n
  | _ => 0
theorem infoB : (Try.prog.info? 54).map (fun i => (i.zero, i.size, i.bytes)) = some (some (.agg #[.int .i64 0, .int .i64 0]), 2, 16) := by kernel_rfl
theorem kB_M (w : World) (base : Nat) (ok : Nat → Prop) (b : Bk) : kB.M w base ok b [.int .i64 b.1, .int .i64 b.2] := ⟨[.int .i64 b.1], [.int .i64 b.2], rfl, rfl, rfl⟩
def BlkPost (w : World) (l : List Bk) (e : Ending) (w' : World) : Prop := ∃ v, e = .returned v ∧ kB.R 54 w' w.heap.size (fun _ => True) v l ∧ Below w.heap.size w w'
def blks (c : Lc) (l : List Nat) : List Bk := l.map fun i => (c.it i).blk
theorem keys_blks (c : Lc) (l : List Nat) : keysOf (c.abs l) = blks c l := by simp [keysOf, Lc.abs, blks, Function.comp_def]
theorem Lc.Ok.short {c : Lc} {l fs : List Nat} (h : c.Ok l fs) : l.length ≤ 64 := by
  have h1 := h.len
  have h2 := h.most
  omega
set_option maxHeartbeats 6400000 in
set_option maxRecDepth 100000 in
theorem lru_Blocks.calls (w : World) (A : Nat → Prop) (p : Nat) (c : Lc) (l fs : List Nat) (h : Cch w A p c l fs) :
    Calls Try.prog 33 #[.pointer (some ⟨p, 0, none⟩)] w (BlkPost w (blks c l)) := by
  have H := Aside0.mk h
  have hll := h.ok.short
  obtain ⟨s0, s1, s2, s3⟩ := h.at_.see
  have hf : c.first = nxtOf l := by
    have := h.ok.row.2.first
    cases l <;> exact this
  rw [hf] at s1
  clear h hf
  go_enter Try.func33, Try.ntmps33
  go_wp2_with fail
  go_loopw [3, 4] (fun v3 v4 wr => ∃ a d, l = a ++ d ∧ v4 = .int .i64 (nxtOf d) ∧ slLen v3 = a.length ∧ Aside0 (kB.R 54 wr w.heap.size (fun _ => True) v3 (blks c a)) ∧ Aside0 (Below w.heap.size w wr)) (fun v3 _ _ => 65 - slLen v3)
  case atStart => exact ⟨[], l, rfl, rfl, rfl, ⟨Kd.R_nil _ _ _ _ _⟩, ⟨Below.refl _ _⟩⟩
  case round =>
    obtain ⟨a, d, rfl, rfl, hs, HR, HB⟩ := hrel
    obtain ⟨A3, c3, rfl⟩ := Kd.R_slice HR.out
    have HLn := Aside0.mk (show (blks c a).length = a.length by simp [blks])
    cases d with
    | nil =>
      rw [show nxtOf ([] : List Nat) = -1 from rfl]
      go_wp2_with fail
      go_ret
      exact ⟨_, rfl, by simpa using HR.out, HB.out⟩
    | cons i d =>
      have hi : i < 64 := H.out.ok.bd i (by simp)
      have z0 : 0 ≤ (i : Int) := by omega
      have z1 : (i : Int) < 64 := by omega
      have hne : ((i : Int) == -1) = false := beq_eq_false_iff_ne.2 (by omega)
      have hnn : ((i : Int) != -1) = true := bne_iff_ne.2 (by omega)
      have hnx := H.out.ok.row.2.next
      have HW := Aside0.mk (H.out.at_.below HB.out)
      obtain ⟨j0, j1, j2, j3, j4⟩ := HW.out.item hi
      rw [hnx] at j4
      have W1 := Aside0.mk ((HW.out.alloc (.cells #[.int .i64 (c.it i).seg, .int .i64 (c.it i).n] 54)).item hi)
      rw [show nxtOf (i :: d) = (i : Int) from rfl]
      clear hnx
      go_wp2_with (at_builtin; refine Kd.R_append kB (w0 := w) w.heap.size rfl (.tmp 18) (.tmp 26) 62 54 (.agg #[.int .i64 0, .int .i64 0]) 16 rfl Try.underlying62 infoB rfl (by decide) (by omega) (.slice A3 (blks c a).length c3) (blks c a) ((c.it i).blk) [.int .i64 (c.it i).seg, .int .i64 (c.it i).n] (fun _ => True) (fun _ => False) rfl rfl (kB_M _ _ _ (c.it i).blk) (fun _ hk => hk.elim) (fun _ _ => trivial) HR.out HB.out HB.out.size (by rw [HLn.out]; simp at hll; omega) ?_; intro v1 w5 hR hB hg hat; obtain ⟨A1, c1, rfl⟩ := Kd.R_slice hR; have HR5 := Aside0.mk hR; have HB5 := Aside0.mk hB; obtain ⟨j0, j1, j2, j3, j4⟩ := (H.out.at_.below hB).item hi; rw [H.out.ok.row.2.next] at j4; clear hR hB hg hat)
      go_roundw
      case rel => exact ⟨a ++ [i], d, by simp, rfl, by simp [slLen, HLn.out], ⟨by have := HR5.out; simpa [blks] using this⟩, HB5⟩
      case measure =>
        have := HLn.out
        simp at hll
        simp only [slLen]; omega
end Go.Proofs.Ytoindlghpkjemaa.Thw
