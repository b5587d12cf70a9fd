/- Several texts of mine in one (ObjS, Ev07, Ev07V, Ev07D, Ev10S, Ev13a, Ev13b, Ev13c, Ev13d, Ev13e). -/
import Derived.Test.YtlnbekaldemebaaGreatDoorObjM
import Derived.Sort.KeysCollected
import Derived.Test.YtlnbekaldemebaaGreatDoorWWords
import Derived.Test.YtlnbekaldemebaaGreatDoorHead
import Derived.Sort.Walk0
import Derived.Test.YtlnbekaldemebaaGreatDoorIter
import Derived.Lib.SliceRun
import Derived.Test.YtlnbekaldemebaaGreatDoorME3
import Derived.Test.YtlnbekaldemebaaGreatDoorWTab
import Derived.RangeFuncStops
import Derived.RangeFuncOwn
import Derived.RangeFuncKeeps
import Derived.RangeFuncFrom
import Derived.RangeFuncBox
import Derived.RangeFuncMany
import Derived.RangeFuncNested
import Derived.RangeFuncBound
import Derived.RangeFuncCalls
import Derived.RangeFuncLeaves
import Derived.OwnWalkIn
import Derived.Maps.AppendAt
import Derived.Shelf.Abstract
import Derived.Shelf.RegionOpen
import Derived.WalkKit
import Derived.TacticsInMore
import Derived.LoopNIn
import Derived.LoopIn
/-! ## The keys of a map in memory, sorted. No program in sight. -/
namespace Go.Proofs.YtlnbekaldemebaaGreatDoor.Thw
open Go Go.RowKit Go.Maps
set_option linter.unusedVariables false
set_option linter.unusedSimpArgs false
/-- Names, rising. -/
def sorted (l : List ByteArray) : List ByteArray := ((l.map fun s => s.data.toList).mergeSort leB).map fun x => ⟨x.toArray⟩
theorem sorted_length (l : List ByteArray) : (sorted l).length = l.length := by simp [sorted]
theorem sorted_perm' (l : List ByteArray) : (sorted l).Perm l := by
 have h := (List.mergeSort_perm (l.map fun s => s.data.toList) leB).map (fun x => (⟨x.toArray⟩ : ByteArray))
 have e : (l.map fun s => s.data.toList).map (fun x => (⟨x.toArray⟩ : ByteArray)) = l := by
  rw [List.map_map]
  conv => rhs; rw [← List.map_id l]
  refine List.map_congr_left fun s _ => ?_
  simp
 rw [e] at h
 exact h
/-- How any element reads, for whoever asks of the keys alone. -/
def anyElem (v : Value) : Option (DataW Unit × List MemPlace) := some (.lit (.bool true), [])
theorem MapOf.owns {α : Type} {P : Program} {kt : TypeId} {ev : α → Value} {w : World} {b : Nat} {m : List (ByteArray × α)} (h : MapOf P kt Value.string ev w b m) (hkt : P.underlying kt = some .string) (hlen : m.length ≤ maxLen) :
  ∃ D0 : DataW Unit, w.ownsMap P kt anyElem b m.length D0 ∧ Maps.size D0 = m.length ∧ (strKeys D0).Perm (m.map fun p => p.1.data.toList) := by
 obtain ⟨es, clock, hb, hst, hm, hk⟩ := h
 have hl : es.size = m.length := by have := congrArg List.length hm; simpa using this
 have hrd : ∀ x ∈ es.toList, ∃ l, keyOf P kt x.key = some l := entries_readable hm hk
 refine ⟨_, ⟨es, clock, hb, ⟨by omega, hst, fun x hx => ?_⟩, by omega, rfl⟩, ?_, ?_⟩
 ·obtain ⟨l, hl'⟩ := hrd x hx
  exact ⟨(l, .lit (.bool true)), by simp [WideElems.rd, hl', anyElem]⟩
 ·simp [Maps.size, length_sorted, hl]
 ·show (List.map (fun p : Lit × DataW Unit => strOf p.1) _).Perm _
  refine ((WideShapes.sorted_perm _).map _).trans ?_
  rw [List.map_map]
  have : es.toList.map ((fun p : Lit × DataW Unit => strOf p.1) ∘ WideElems.rg P kt anyElem) = m.map fun p => p.1.data.toList := by
   have e1 : es.toList.map ((fun p : Lit × DataW Unit => strOf p.1) ∘ WideElems.rg P kt anyElem) = (es.toList.map fun e => (e.key, e.val)).map fun q => match q.1 with | .string s => s.data.toList | _ => [] := by
    rw [List.map_map]
    refine List.map_congr_left fun x hx => ?_
    have hx' : x.key ∈ es.toList.map (·.key) := List.mem_map.2 ⟨x, hx, rfl⟩
    rw [entries_keys hm] at hx'
    obtain ⟨p, hp, e⟩ := List.mem_map.1 hx'
    obtain ⟨l, hl'⟩ := hrd x hx
    have e2 : l = .string p.1.data.toList := by
     rw [← e] at hl'
     simp [keyOf, hkt, mapKey] at hl'
     exact hl'.2.symm
    have hl2 : keyOf P kt (Value.string p.1) = some l := by rw [e]; exact hl'
    simp [WideElems.rg, WideElems.rd, hl2, anyElem, e2, strOf, ← e]
   rw [e1, hm, List.map_map]
   rfl
  rw [this]
/-- The row that holds them. -/
theorem R_sorted {W : World} {base kt : Nat} {v : Value} {ss : List (List UInt8)} {l : List ByteArray} (h : W.ownsRow base kt 1 v ss.length ((ss.mergeSort fun x y => decide (x ≤ y)).map Go.Proofs.encStr)) (hp : ss.Perm (l.map fun s => s.data.toList)) :
  Go.Proofs.YtlnbekaldemebaaGreatDoorW.PrintWords.Kd.string.R kt W base (fun _ => True) v (sorted l) := by
 have e : (ss.mergeSort fun x y => decide (x ≤ y)) = (l.map fun s => s.data.toList).mergeSort leB := mergeSort_of_perm hp
 have hlen : ss.length = (sorted l).length := by rw [sorted_length, hp.length_eq, List.length_map]
 rw [e, hlen] at h
 refine Go.Proofs.YtlnbekaldemebaaGreatDoorW.PrintWords.Kd.R_of_own (enc := Value.string) ?_ (fun _ _ => trivial)
 have : Go.Proofs.YtlnbekaldemebaaGreatDoorW.PrintWords.encs Value.string (sorted l) = ((l.map fun s => s.data.toList).mergeSort leB).map Go.Proofs.encStr := by
  simp [Go.Proofs.YtlnbekaldemebaaGreatDoorW.PrintWords.encs, sorted, List.map_map, Go.Proofs.encStr, Function.comp_def]
 rw [this]
 exact h
end Go.Proofs.YtlnbekaldemebaaGreatDoor.Thw
/-! ## Layer 7: the remote's object in memory, and what its calls do to it. -/
namespace Go.Proofs.YtlnbekaldemebaaGreatDoor.Thw
open Go Go.RowKit Go.Proofs.YtlnbekaldemebaaGreatDoorW.PrintWords Go.Proofs.YtlnbekaldemebaaGreatDoorW.PrintLast Go.Proofs.YtlnbekaldemebaaGreatDoorW.PrintMore
set_option linter.unusedVariables false
set_option linter.unusedSimpArgs false

theorem intinfo : (Tryz.prog.info? 3).map (fun i => (i.zero, i.size, i.bytes)) = some (some (.int .i64 0), 1, 8) := by kernel_rfl
set_option maxHeartbeats 1600000 in
set_option maxRecDepth 100000 in
theorem clone_ints.calls (A : Option Addr) (n c : Nat) (xs : List Int) (w : World) (hc : (Kd.int .i64).C w A n xs) (hl : n ≤ c) (hn : n * 8 ≤ 140737488351232) :
  Calls Tryz.prog 41 #[.slice A n c] w fun e w' => ∃ v, e = .returned v ∧ (Kd.int .i64).R 3 w' w.heap.size (fun _ => True) v xs ∧ Below w.heap.size w w' := by
 have HC := Aside0.mk hc
 have HN := Aside0.mk hn
 clear hc hn
 have hnil := fun (w : World) (a : Option Addr) (n c : Nat) => Lib.run_eql_slice_nil (P := Tryz.prog) w 35 3 a n c 0 0 Tryz.underlying35
 cases A with
 | none =>
  go_enter Tryz.func41, Tryz.ntmps41
  go_wp2_with fail
  go_ret
  have hx : xs = [] := by
   obtain ⟨h1, _, h2⟩ := HC.out
   rcases Nat.eq_zero_or_pos n with h0 | h0
   ·exact List.eq_nil_of_length_eq_zero (by omega)
   ·obtain ⟨ad, e, _⟩ := h2 h0; cases e
  subst hx
  exact ⟨_, rfl, Kd.R_nil _ _ _ _ _, Below.refl _ _⟩
 | some a =>
  have H0 : (Kd.int .i64).R 3 (w.alloc (.cells #[] 3)) w.heap.size (fun _ => True) (.slice (some ⟨w.heap.size, 0, none⟩) 0 0) [] :=
   Kd.R_of_own (own_lit_of (enc := Value.int .i64) w w.heap.size 3 [] (Nat.le_refl _) (by decide)) (fun _ _ => trivial)
  go_enter Tryz.func41, Tryz.ntmps41
  go_wp2_with (at_builtin; refine Kd.R_append_row (Value.int .i64) 0 (w0 := w) w.heap.size rfl (.tmp 5) (.tmp 6) 35 3 (.int .i64 0) 8 rfl Tryz.underlying35 intinfo rfl (by decide) _ [] xs (some a) n c (fun _ => True) rfl rfl (fun _ _ => trivial) H0 (Kd.C_below HC.out (below_alloc (Below.refl _ _) _)) (below_alloc (Below.refl _ _) _) (by simp) (by have := HN.out; simp; omega) ?_; intro v1 w1 hR hB hg hat)
  go_ret
  exact ⟨_, rfl, hR, hB⟩

/-- A set of blocks, and all that is new. -/
def gr (A : Nat → Prop) (w : World) : Nat → Prop := fun k => A k ∨ w.heap.size ≤ k
theorem cells1 {w : World} {s : Nat} {v0 : Value} {t : TypeId} (h : w.heap[s]? = some (.cells #[v0] t)) : w.cell? ⟨s, 0, none⟩ = some v0 ∧ w.frozen? ⟨s, 0, none⟩ = false := by
 refine ⟨?_, ?_⟩ <;> simp [World.cell?, World.frozen?, h]
theorem cells3 {w : World} {s : Nat} {v0 v1 v2 : Value} {t : TypeId} (h : w.heap[s]? = some (.cells #[v0, v1, v2] t)) :
  w.cell? ⟨s, 0, none⟩ = some v0 ∧ w.cell? ⟨s, 1, none⟩ = some v1 ∧ w.cell? ⟨s, 2, none⟩ = some v2 ∧ ∀ i, w.frozen? ⟨s, i, none⟩ = false := by
 refine ⟨?_, ?_, ?_, fun i => ?_⟩ <;> simp [World.cell?, World.frozen?, h]
theorem Q_frm {α : Type} {d : Kd α} {e : Nat} {w w1 : World} {base : Nat} {ok S : Nat → Prop} {v : Value} {xs : List α} (h : d.Q e w base ok v xs) (hf : Frm S w w1) (hn : ∀ k, ok k → ¬ S k) : d.Q e w1 base ok v xs :=
 Kd.Q_step h (fun k ho hk => hf.block k hk (hn k ho))
/-- What a block of another kind is written to does not touch a row. -/
theorem Q_setc {α : Type} {d : Kd α} {e : Nat} {w : World} {base : Nat} {ok : Nat → Prop} {v : Value} {xs : List α} (h : d.Q e w base ok v xs) {g t : Nat} {cells : Array Value} (hb : w.heap[g]? = some (.cells cells t (0, 0))) (ht : ∀ q, q ∈ e :: d.E → q ≠ t) (j : Nat) (u : Value) :
  d.Q e (w.setCell ⟨g, j, none⟩ u) base ok v xs := Kd.Q_set h hb ht j u
theorem Q_notmap {α : Type} {d : Kd α} {e : Nat} {w w1 : World} {base : Nat} {ok : Nat → Prop} {v : Value} {xs : List α} (h : d.Q e w base ok v xs) {mb : Nat} {es : Array MapEntry} {cl : Nat} (hb : w.heap[mb]? = some (.map es cl)) (hf : Frm (fun i => i = mb) w w1) : d.Q e w1 base ok v xs :=
 Kd.Q_mono (Q_frm (Kd.Q_bound h) hf (fun k hk => by
  obtain ⟨_, _, _, q, _, cs, hc⟩ := hk
  rintro rfl
  rw [hc] at hb; cases hb)) (fun _ hk => hk.1)

/-! ### the remote -/
structure Rem where
 m : List (ByteArray × ByteArray)
 s : List Int
 n : Int
def RemAt (w : World) (A : Nat → Prop) (r : Nat) (st : Rem) : Prop :=
 ∃ mb sv, A r ∧ A mb ∧ w.heap[r]? = some (.cells #[.map (some mb), sv, .int .i64 st.n] 85) ∧ MapOf Tryz.prog 9 Value.string Value.string w mb st.m ∧ (Kd.int .i64).Q 3 w 0 A sv st.s
theorem RemAt.mono {w : World} {A A' : Nat → Prop} {r : Nat} {st : Rem} (h : RemAt w A r st) (hA : ∀ k, k < w.heap.size → A k → A' k) : RemAt w A' r st := by
 obtain ⟨mb, sv, a1, a2, hb, hm, hq⟩ := h
 exact ⟨mb, sv, hA _ (blk_lt hb) a1, hA _ hm.lt a2, hb, hm, Kd.Q_mono (Kd.Q_bound hq) (fun k hk => hA k hk.2.2.1 hk.1)⟩
theorem RemAt.frm {w w' : World} {A S : Nat → Prop} {r : Nat} {st : Rem} (h : RemAt w A r st) (hf : Frm S w w') (hn : ∀ k, A k → ¬ S k) : RemAt w' A r st := by
 obtain ⟨mb, sv, a1, a2, hb, hm, hq⟩ := h
 exact ⟨mb, sv, a1, a2, hf.keeps hb (hn _ a1), hm.frm hf (hn _ a2), Q_frm hq hf hn⟩
theorem RemAt.lt {w : World} {A : Nat → Prop} {r : Nat} {st : Rem} (h : RemAt w A r st) : r < w.heap.size := by
 obtain ⟨mb, sv, a1, a2, hb, hm, hq⟩ := h
 exact blk_lt hb
theorem strOk {s : ByteArray} (h : s.size ≤ 140737488351232) : ∃ l, keyOf Tryz.prog 9 (.string s) = some l := ⟨_, Go.WideMaps.keyOf_string_mk Tryz.underlying9 (by unfold maxLen; omega)⟩
theorem strInj (a b : ByteArray) (h : Value.string a = Value.string b) : a = b := by injection h
theorem strKeyed : Go.Maps.Keyed Tryz.prog 9 := Go.Maps.string_keyed Tryz.underlying9

set_option maxHeartbeats 1600000 in
theorem remote_New.calls (w : World) : Calls Tryz.prog 12 #[] w fun e w' => ∃ r, e = .returned (.pointer (some ⟨r, 0, none⟩)) ∧ RemAt w' (fun k => w.heap.size ≤ k) r ⟨[], [], 0⟩ ∧ Below w.heap.size w w' := by
 have hmm := @run_makeMap Tryz.prog
 go_enter Tryz.func12, Tryz.ntmps12
 go_wp2_with fail
 go_ret
 refine ⟨_, rfl, ⟨w.heap.size, _, by simp, Nat.le_refl _, by rw [show w.heap.size + 1 = (w.alloc (.map #[] 0)).heap.size by simp]; exact blk_new _ _, MapOf.frm (MapOf.made w) ((Frm.refl None' _).alloc _) (fun x => x.elim), Kd.Q_nil _ _ _ _ _⟩, ((Below.refl _ _).alloc (Nat.le_refl _) _).alloc (by simp) _⟩
set_option maxHeartbeats 1600000 in
theorem remote_Calls.calls (w : World) (A : Nat → Prop) (r : Nat) (st : Rem) (h : RemAt w A r st) : Calls Tryz.prog 28 #[.pointer (some ⟨r, 0, none⟩)] w fun e w' => e = .returned (.int .i64 st.n) ∧ w = w' := by
 obtain ⟨mb, sv, a1, a2, hb, hm, hq⟩ := h
 obtain ⟨c0, c1, c2, fr⟩ := cells3 hb
 clear hb hm hq
 go_enter Tryz.func28, Tryz.ntmps28
 go_wp2_with fail
 go_ret
 exact ⟨rfl, rfl⟩
set_option maxHeartbeats 1600000 in
set_option maxRecDepth 100000 in
theorem remote_Script.calls (w : World) (A : Nat → Prop) (r : Nat) (st : Rem) (h : RemAt w A r st) (A' : Option Addr) (n c : Nat) (xs : List Int) (hc : (Kd.int .i64).C w A' n xs) (hl : n ≤ c) (hn : n * 8 ≤ 140737488351232) :
  Calls Tryz.prog 13 #[.pointer (some ⟨r, 0, none⟩), .slice A' n c] w fun e w' => e = .returned (.tuple #[]) ∧ RemAt w' (gr A w) r { st with s := xs } ∧ Frm A w w' := by
 obtain ⟨mb, sv, a1, a2, hb, hm, hq⟩ := h
 have HB := Aside0.mk hb
 have HM := Aside0.mk hm
 have HC := Aside0.mk (clone_ints.calls A' n c xs w hc hl hn)
 clear hb hm hq hc hl hn
 go_enter Tryz.func13, Tryz.ntmps13
 go_wp2_with fail
 refine HC.out.mono ?_
 rintro e w1 ⟨v, rfl, hR, hB⟩
 have hb1 := blk_below HB.out hB
 obtain ⟨c0, c1, c2, fr⟩ := cells3 hb1
 have HR := Aside0.mk hR
 have HB1 := Aside0.mk hB
 have HB2 := Aside0.mk hb1
 clear hB hb1
 obtain ⟨A2, cc, rfl, _⟩ := Kd.R_reads hR
 clear hR
 go_wp2_with fail
 go_end0
 have hne := MapOf.ne HM.out HB.out
 refine ⟨rfl, ⟨mb, .slice A2 xs.length cc, Or.inl a1, Or.inl a2, by simpa using blk_set HB2.out 1 _, ?_, ?_⟩, ?_⟩
 ·exact (MapOf.frm HM.out (Frm.of_new (S := None') HB1.out) (fun x => x.elim)).frm ((Frm.refl (fun i => i = r) _).setCell (Or.inl rfl) _) (fun e => hne e.symm)
 ·exact Kd.Q_mono (Q_setc (Kd.Q_lower (Kd.Q_bound (Kd.Q_of_R HR.out)) (Nat.zero_le _)) HB2.out (by decide) 1 _) (fun k hk => Or.inr hk.2.1)
 ·exact (Frm.of_new HB1.out).setCell (Or.inl a1) _
set_option maxHeartbeats 1600000 in
set_option maxRecDepth 100000 in
theorem lay_put.calls (w : World) (A : Nat → Prop) (r : Nat) (st : Rem) (h : RemAt w A r st) (name b : ByteArray) (hn : name.size ≤ 140737488351232) :
  Calls Tryz.prog 60 #[.agg #[.pointer (some ⟨r, 0, none⟩), .string name, .string b]] w fun e w' => e = .returned (.int .i64 0) ∧ RemAt w' (gr A w) r { st with m := put st.m name b } ∧ Frm A w w' := by
 obtain ⟨mb, sv, a1, a2, hb, hm, hq⟩ := h
 have HB := Aside0.mk hb
 have HM := Aside0.mk hm
 have HQ := Aside0.mk hq
 have HK := Aside0.mk (strOk hn)
 obtain ⟨c0, c1, c2, fr⟩ := cells3 hb
 clear hb hm hq hn
 go_enter Tryz.func60, Tryz.ntmps60
 go_wp2_with fail
 clear c0 c1 c2 fr
 refine region_tail 9 (by kernel_rfl) (by kernel_rfl) (fun W => W.heap[w.heap.size]? = some (.cells #[.pointer (some ⟨r, 0, none⟩), .string name, .string b] 103) ∧ W.heap[r]? = some (.cells #[.map (some mb), sv, .int .i64 st.n] 85) ∧ MapOf Tryz.prog 9 Value.string Value.string W mb st.m ∧ (Kd.int .i64).Q 3 W 0 A sv st.s ∧ Frm A w W)
  ⟨blk_new w _, blk_alloc HB.out _, (HM.out.alloc _).drew, Kd.Q_drew (Kd.Q_alloc HQ.out _), ((Frm.refl A w).alloc _).drew⟩ ?_
 rintro w2 ⟨x2, b2, m2, q2, f2⟩
 obtain ⟨c0, c1, c2, fr⟩ := cells3 b2
 obtain ⟨d0, d1, d2, dr⟩ := cells3 x2
 have B2 := Aside0.mk b2
 have M2 := Aside0.mk m2
 have Q2 := Aside0.mk q2
 have F2 := Aside0.mk f2
 clear b2 x2 m2 q2 f2
 simp only [List.take_succ_cons, List.take_zero, List.drop_succ_cons, List.drop_zero]
 repeat still_step
 refine wpStill_nil ?_
 refine wpList_mapUpdate_of strInj strKeyed w2 rfl _ _ _ 83 9 rfl Tryz.underlying83 mb st.m rfl M2.out name rfl HK.out b rfl ?_
 rintro w3 m3 f3 z3
 have M3 := Aside0.mk m3
 have F3 := Aside0.mk f3
 clear m3 f3 z3 c0 c1 c2 fr d0 d1 d2 dr
 go_wp2_with fail
 go_ret
 have hne := MapOf.ne M2.out B2.out
 obtain ⟨es, cl, hes, _⟩ := M2.out
 exact ⟨rfl, ⟨mb, sv, Or.inl a1, Or.inl a2, F3.out.keeps B2.out hne, M3.out, Kd.Q_mono (Q_notmap Q2.out hes F3.out) (fun k hk => Or.inl hk)⟩, F2.out.andThen F3.out (fun i e => by rw [e]; exact Or.inl a2)⟩

def Rem.next (st : Rem) : Rem := { st with s := st.s.tail, n := wrap64 (st.n + 1) }
def Rem.fate (st : Rem) : Int := st.s.headD 0
theorem RemAt.bound {w : World} {A : Nat → Prop} {r : Nat} {st : Rem} (h : RemAt w A r st) : RemAt w (fun k => A k ∧ k < w.heap.size) r st := h.mono fun _ hk ha => ⟨ha, hk⟩
/-- The first of a row of numbers, and what is behind it. -/
theorem first_of {w : World} {A : Nat → Prop} {v : Value} {x : Int} {l : List Int} (h : (Kd.int .i64).Q 3 w 0 A v (x :: l)) :
  ∃ g o cap A2 c2, v = .slice (some ⟨g, o, none⟩) (l.length + 1) cap ∧ w.cell? ⟨g, o, none⟩ = some (.int .i64 x) ∧ (∀ W, (Instr.slice 35 (.slice (some ⟨g, o, none⟩) (l.length + 1) cap) (some (.int .i64 1)) none none).run Tryz.prog W = .ok (.slice A2 l.length c2) W) ∧
   (Kd.int .i64).Q 3 w 0 A (.slice A2 l.length c2) l ∧ g < w.heap.size ∧ ∃ cells, w.heap[g]? = some (.cells cells 3 (0, 0)) := by
 obtain ⟨g, o, cap, rfl, _, hg, cs, hcs⟩ := Kd.Q_form h (Nat.succ_pos _)
 obtain ⟨i0, hi, hz0, hz1, hz2⟩ := info_parts intinfo
 have hc := cut_from (P := Tryz.prog) 35 3 .i64 Tryz.underlying35 hi 1 hz1 (some ⟨g, o, none⟩) (l.length + 1) cap 1 (by omega) (by omega)
 have hd := Kd.Q_drop (k := 1) h (by simp)
 have he := (Kd.Q_cell (0 : Int) h 0 (by omega) (by simp)).1
 exact ⟨g, o, cap, _, _, rfl, by simpa [rdOf] using he, fun W => hc W, hd, hg, cs, hcs⟩
/-- What a call comes to, if what it does comes to Post. -/
def CallPost (A : Nat → Prop) (r : Nat) (st : Rem) (w : World) (Post : World → World → Int → Prop) (e : Ending) (w' : World) : Prop :=
 (st.fate = 1 ∧ e = .returned (.int .i64 9) ∧ RemAt w' A r st.next ∧ Frm A w w') ∨
 (st.fate ≠ 1 ∧ ∃ W x y, RemAt W A r st.next ∧ Frm A w W ∧ Post W w' x ∧ y = (if st.fate = 2 then 9 else x) ∧ e = .returned (.int .i64 y))
set_option maxHeartbeats 3200000 in
set_option maxRecDepth 100000 in
theorem remote_call.calls (w : World) (A : Nat → Prop) (r : Nat) (st : Rem) (h : RemAt w A r st) (F : Nat) (fn : Func) (hf : Tryz.prog.funcs[F]? = some fn) (hname : (fn.name == "runtime.NumGoroutine") = false) (hbody : fn.body.isSome = true) (first captured : Array Value) (Post : World → World → Int → Prop)
  (hdo : ∀ W, RemAt W A r st.next → Frm A w W → Calls Tryz.prog F (first ++ captured) W fun e w' => ∃ x, e = .returned (.int .i64 x) ∧ Post W w' x) :
  Calls Tryz.prog 61 #[.pointer (some ⟨r, 0, none⟩), .func (.func F) first captured] w (CallPost A r st w Post) := by
 obtain ⟨mb, sv, a1, a2, hb, hm, hq⟩ := h
 have HB := Aside0.mk hb
 have HM := Aside0.mk hm
 have HQ := Aside0.mk hq
 have HD := Aside0.mk hdo
 have HE := Aside0.mk (enters_ hf hname hbody (first ++ captured))
 clear hb hm hq hdo hf hname hbody
 obtain ⟨m, s, n⟩ := st
 cases s with
 | nil =>
  obtain ⟨sa, sc, rfl, _⟩ := Kd.Q_slice HQ.out
  obtain ⟨c0, c1, c2, fr⟩ := cells3 HB.out
  simp only [List.length_nil] at c1
  go_enter Tryz.func61, Tryz.ntmps61
  go_wp2_with fail
  rw [HE.out, Oper.upon_enter]
  refine (HD.out _ ⟨mb, .slice sa 0 sc, a1, a2, by simpa [Rem.next] using blk_set HB.out 2 (.int .i64 (wrap64 (n + 1))), HM.out.frm ((Frm.refl (fun i => i = r) _).setCell (Or.inl rfl) _) (fun e => (HM.out.ne HB.out) e.symm), Q_setc HQ.out HB.out (by decide) 2 _⟩ ((Frm.refl _ _).setCell (Or.inl a1) _)).mono ?_
  rintro e w1 ⟨x, rfl, hp⟩
  have HP := Aside0.mk hp
  clear hp c0 c1 c2 fr
  go_wp2_with fail
  go_ret
  exact Or.inr ⟨by simp [Rem.fate], _, x, _, ⟨mb, .slice sa 0 sc, a1, a2, by simpa [Rem.next] using blk_set HB.out 2 (.int .i64 (wrap64 (n + 1))), HM.out.frm ((Frm.refl (fun i => i = r) _).setCell (Or.inl rfl) _) (fun e => (HM.out.ne HB.out) e.symm), Q_setc HQ.out HB.out (by decide) 2 _⟩, (Frm.refl _ _).setCell (Or.inl a1) _, HP.out, by simp [Rem.fate], rfl⟩
 | cons f l =>
  obtain ⟨g, o, cap, A2, c2', rfl, hcell, hcut, hq2, hg, cs, hcs⟩ := first_of HQ.out
  obtain ⟨c0, c1, c2, fr⟩ := cells3 HB.out
  go_enter Tryz.func61, Tryz.ntmps61
  go_wp2_with fail
  have hne : ∀ u, (w.setCell ⟨r, 2, none⟩ u).cell? ⟨g, o, none⟩ = some (.int .i64 f) := fun u => by
   have hgr : g ≠ r := by rintro rfl; rw [hcs] at HB; have := HB.out; simp at this
   exact (World.cell?_of_block (w := w) (a := ⟨g, o, none⟩) (Below.heap_setCell w ⟨r, 2, none⟩ u g hgr)).trans hcell
  refine region_tail 15 (by kernel_rfl) (by kernel_rfl) (fun W => W.heap[r]? = some (.cells #[.map (some mb), .slice (some ⟨g, o, none⟩) (l.length + 1) cap, .int .i64 (wrap64 (n + 1))] 85) ∧ W.cell? ⟨g, o, none⟩ = some (.int .i64 f) ∧ MapOf Tryz.prog 9 Value.string Value.string W mb m ∧ (Kd.int .i64).Q 3 W 0 A (.slice A2 l.length c2') l ∧ Frm A w W)
   ⟨blk_drew (by simpa using blk_set HB.out 2 (.int .i64 (wrap64 (n + 1)))), hne _, (HM.out.frm ((Frm.refl (fun i => i = r) _).setCell (Or.inl rfl) _) (fun e => (HM.out.ne HB.out) e.symm)).drew, Kd.Q_drew (Q_setc hq2 HB.out (by decide) 2 _), ((Frm.refl _ _).setCell (Or.inl a1) _).drew⟩ ?_
  clear c0 c1 c2 fr hne hq2 hcs hcell
  rintro w2 ⟨b2, hcell, m2, q2, f2⟩
  obtain ⟨c0, c1, c2, fr⟩ := cells3 b2
  have B2 := Aside0.mk b2
  have M2 := Aside0.mk m2
  have Q2 := Aside0.mk q2
  have F2 := Aside0.mk f2
  clear b2 m2 q2 f2
  have hlt : decide ((0 : Int) < (l.length : Int) + 1) = true := decide_eq_true (by omega)
  simp only [List.take_succ_cons, List.take_zero, List.drop_succ_cons, List.drop_zero]
  repeat still_step
  refine wpStill_nil ?_
  have hat : RemAt (w2.setCell ⟨r, 1, none⟩ (.slice A2 l.length c2')) A r (Rem.next ⟨m, f :: l, n⟩) :=
   ⟨mb, .slice A2 l.length c2', a1, a2, by simpa [Rem.next] using blk_set B2.out 1 (.slice A2 l.length c2'), M2.out.frm ((Frm.refl (fun i => i = r) _).setCell (Or.inl rfl) _) (fun e => (M2.out.ne B2.out) e.symm), Q_setc Q2.out B2.out (by decide) 1 _⟩
  have HA := Aside0.mk hat
  have HF := Aside0.mk (F2.out.setCell (p := ⟨r, 1, none⟩) (Or.inl a1) (.slice A2 l.length c2'))
  clear hat hlt hcell hcut
  by_cases hf1 : f = 1
  ·subst hf1
   go_wp2_with fail
   go_ret
   exact Or.inl ⟨rfl, rfl, HA.out, HF.out⟩
  ·have hb1 : (f == 1) = false := beq_eq_false_iff_ne.2 hf1
   go_wp2_with fail
   rw [HE.out, Oper.upon_enter]
   refine (HD.out _ HA.out HF.out).mono ?_
   rintro e w1 ⟨x, rfl, hp⟩
   have HP := Aside0.mk hp
   clear hp c0 c1 c2 fr
   by_cases hf2 : f = 2
   ·subst hf2
    go_wp2_with fail
    go_ret
    exact Or.inr ⟨by simp [Rem.fate], _, x, _, HA.out, HF.out, HP.out, by simp [Rem.fate], rfl⟩
   ·have hb2 : (f == 2) = false := beq_eq_false_iff_ne.2 hf2
    go_wp2_with fail
    go_ret
    exact Or.inr ⟨by simp [Rem.fate, hf1], _, x, _, HA.out, HF.out, HP.out, by simp [Rem.fate, hf2], rfl⟩

theorem gr_mono {A : Nat → Prop} {w W : World} (hz : w.heap.size ≤ W.heap.size) : ∀ k, gr A W k → gr A w k := fun k hk => hk.imp id (fun h => Nat.le_trans hz h)
def Rem.put (st : Rem) (name b : ByteArray) : Rem × Int := if st.fate = 1 then (st.next, 9) else ({ st.next with m := Thw.put st.m name b }, if st.fate = 2 then 9 else 0)
set_option maxHeartbeats 1600000 in
set_option maxRecDepth 100000 in
theorem remote_Put.calls (w : World) (A : Nat → Prop) (r : Nat) (st : Rem) (h : RemAt w A r st) (name b : ByteArray) (hn : name.size ≤ 140737488351232) :
  Calls Tryz.prog 24 #[.pointer (some ⟨r, 0, none⟩), .string name, .string b] w fun e w' => e = .returned (.int .i64 (st.put name b).2) ∧ RemAt w' (gr A w) r (st.put name b).1 ∧ Frm A w w' := by
 have HC := Aside0.mk (remote_call.calls w A r st h 60 _ Tryz.func60 (by kernel_rfl) (by kernel_rfl) #[.agg #[.pointer (some ⟨r, 0, none⟩), .string name, .string b]] #[]
  (fun W w' x => x = 0 ∧ RemAt w' (gr A W) r { st.next with m := Thw.put st.m name b } ∧ Frm A W w')
  (fun W hW hF => (lay_put.calls W A r st.next hW name b hn).mono fun e w' ⟨he, h1, h2⟩ => ⟨0, he, rfl, h1, h2⟩))
 clear h hn
 go_enter Tryz.func24, Tryz.ntmps24
 go_wp2_with fail
 refine HC.out.mono ?_
 rintro e w1 (⟨h1, rfl, h2, h3⟩ | ⟨h1, W, x, y, h2, h3, ⟨rfl, h4, h5⟩, hy, rfl⟩)
 ·have A1 := Aside0.mk h1
  have A2 := Aside0.mk h2
  have A3 := Aside0.mk h3
  clear h1 h2 h3
  go_wp2_with fail
  go_ret
  refine ⟨by simp [Rem.put, A1.out], ?_, A3.out⟩
  have : (st.put name b).1 = st.next := by simp [Rem.put, A1.out]
  rw [this]
  exact A2.out.mono fun k _ hk => Or.inl hk
 ·have A1 := Aside0.mk h1
  have A3 := Aside0.mk h3
  have A4 := Aside0.mk h4
  have A5 := Aside0.mk h5
  have A6 := Aside0.mk hy
  clear h1 h2 h3 h4 h5 hy
  go_wp2_with fail
  go_ret
  refine ⟨by simp [Rem.put, A1.out, A6.out], ?_, A3.out.andThen A5.out (fun i hi => Or.inl hi)⟩
  have : (st.put name b).1 = { st.next with m := Thw.put st.m name b } := by simp [Rem.put, A1.out]
  rw [this]
  exact A4.out.mono fun k _ hk => gr_mono A3.out.size k hk

/-- a, if there is one; else b. -/
def ifAny {α β : Type} (o : Option α) (a b : β) : β := match o with | some _ => a | none => b
theorem zeroStr (w : World) : (zeroValue 9).run Tryz.prog w = .ok (.string ⟨#[]⟩) w := by kernel_rfl
set_option maxHeartbeats 1600000 in
set_option maxRecDepth 100000 in
theorem lay_putNew.calls (w : World) (A : Nat → Prop) (r : Nat) (st : Rem) (h : RemAt w A r st) (name b : ByteArray) (hn : name.size ≤ 140737488351232) :
  Calls Tryz.prog 76 #[.agg #[.pointer (some ⟨r, 0, none⟩), .string name, .string b]] w fun e w' => e = .returned (.int .i64 (ifAny (look st.m name) 7 0)) ∧ RemAt w' (gr A w) r (ifAny (look st.m name) st { st with m := put st.m name b }) ∧ Frm A w w' := by
 have h0 := h
 obtain ⟨mb, sv, a1, a2, hb, hm, hq⟩ := h
 have HB := Aside0.mk hb
 have HM := Aside0.mk hm
 have HA := Aside0.mk h0
 have HN := Aside0.mk hn
 clear hb hm hq hn h0
 go_enter Tryz.func76, Tryz.ntmps76
 go_wp2_with fail
 refine region_still (by kernel_rfl) (by kernel_rfl) (fun W => W.heap[w.heap.size]? = some (.cells #[.pointer (some ⟨r, 0, none⟩), .string name, .string b] 103) ∧ W.heap[r]? = some (.cells #[.map (some mb), sv, .int .i64 st.n] 85) ∧ MapOf Tryz.prog 9 Value.string Value.string W mb st.m ∧ RemAt W A r st ∧ Frm A w W)
  ⟨blk_new w _, blk_alloc HB.out _, (HM.out.alloc _).drew, HA.out.frm (S := None') ((Frm.refl _ w).alloc _).drew (fun _ _ x => x), ((Frm.refl A w).alloc _).drew⟩ ?_
 rintro w2 ⟨x2, b2, m2, q2, f2⟩
 obtain ⟨c0, c1, c2, fr⟩ := cells3 b2
 obtain ⟨d0, d1, d2, dr⟩ := cells3 x2
 have A2 := Aside0.mk q2
 have F2 := Aside0.mk f2
 cases hl : look st.m name with
 | none =>
  have hlk := MapOf.absent strInj strKeyed m2 Tryz.underlying83 (strOk HN.out) (zeroStr w2) hl
  have HL := Aside0.mk hl
  clear b2 x2 m2 q2 f2 hl
  repeat still_step
  refine wpStill_nil ?_
  go_wp2_with fail
  refine (lay_put.calls w2 A r st A2.out name b HN.out).mono ?_
  rintro e w3 ⟨rfl, h3, f3⟩
  have A3 := Aside0.mk h3
  have F3 := Aside0.mk f3
  clear h3 f3 hlk c0 c1 c2 fr d0 d1 d2 dr
  go_wp2_with fail
  go_ret
  refine ⟨by rw [HL.out]; rfl, ?_, F2.out.andThen F3.out (fun i hi => Or.inl hi)⟩
  rw [HL.out]
  exact A3.out.mono fun k _ hk => gr_mono F2.out.size k hk
 | some v =>
  have hlk := MapOf.found strInj strKeyed m2 Tryz.underlying83 (strOk HN.out) (zeroStr w2) hl
  have HL := Aside0.mk hl
  clear b2 x2 m2 q2 f2 hl
  repeat still_step
  refine wpStill_nil ?_
  go_wp2_with fail
  go_ret
  refine ⟨by rw [HL.out]; rfl, ?_, F2.out⟩
  rw [HL.out]
  exact A2.out.mono fun k _ hk => Or.inl hk

def Rem.putNew (st : Rem) (name b : ByteArray) : Rem × Int := if st.fate = 1 then (st.next, 9) else (ifAny (look st.m name) st.next { st.next with m := Thw.put st.m name b }, if st.fate = 2 then 9 else ifAny (look st.m name) 7 0)
set_option maxHeartbeats 1600000 in
set_option maxRecDepth 100000 in
theorem remote_PutNew.calls (w : World) (A : Nat → Prop) (r : Nat) (st : Rem) (h : RemAt w A r st) (name b : ByteArray) (hn : name.size ≤ 140737488351232) :
  Calls Tryz.prog 45 #[.pointer (some ⟨r, 0, none⟩), .string name, .string b] w fun e w' => e = .returned (.int .i64 (st.putNew name b).2) ∧ RemAt w' (gr A w) r (st.putNew name b).1 ∧ Frm A w w' := by
 have HC := Aside0.mk (remote_call.calls w A r st h 76 _ Tryz.func76 (by kernel_rfl) (by kernel_rfl) #[.agg #[.pointer (some ⟨r, 0, none⟩), .string name, .string b]] #[]
  (fun W w' x => x = (ifAny (look st.m name) 7 0) ∧ RemAt w' (gr A W) r (ifAny (look st.m name) st.next { st.next with m := Thw.put st.m name b }) ∧ Frm A W w')
  (fun W hW hF => (lay_putNew.calls W A r st.next hW name b hn).mono fun e w' ⟨he, h1, h2⟩ => ⟨_, he, rfl, h1, h2⟩))
 clear h hn
 go_enter Tryz.func45, Tryz.ntmps45
 go_wp2_with fail
 refine HC.out.mono ?_
 rintro e w1 (⟨h1, rfl, h2, h3⟩ | ⟨h1, W, x, y, h2, h3, ⟨hx, h4, h5⟩, hy, rfl⟩)
 ·have A1 := Aside0.mk h1
  have A2 := Aside0.mk h2
  have A3 := Aside0.mk h3
  clear h1 h2 h3
  go_wp2_with fail
  go_ret
  refine ⟨by simp [Rem.putNew, A1.out], ?_, A3.out⟩
  have : (st.putNew name b).1 = st.next := by simp [Rem.putNew, A1.out]
  rw [this]
  exact A2.out.mono fun k _ hk => Or.inl hk
 ·rw [hx] at hy
  have A1 := Aside0.mk h1
  have A3 := Aside0.mk h3
  have A4 := Aside0.mk h4
  have A5 := Aside0.mk h5
  have A6 := Aside0.mk hy
  clear h1 h2 h3 h4 h5 hy hx
  go_wp2_with fail
  go_ret
  refine ⟨by simp [Rem.putNew, A1.out, A6.out], ?_, A3.out.andThen A5.out (fun i hi => Or.inl hi)⟩
  have : (st.putNew name b).1 = ifAny (look st.m name) st.next { st.next with m := Thw.put st.m name b } := by simp [Rem.putNew, A1.out]
  rw [this]
  exact A4.out.mono fun k _ hk => gr_mono A3.out.size k hk

def Rem.get (st : Rem) (name : ByteArray) : Rem × ByteArray × Int := if st.fate = 1 ∨ st.fate = 2 then (st.next, ⟨#[]⟩, 9) else match look st.m name with
 | none => (st.next, ⟨#[]⟩, 5)
 | some b => (st.next, b, 0)
set_option maxHeartbeats 1600000 in
set_option maxRecDepth 100000 in
/-- What Get does: pr, pn, pb: the boxes that it holds. -/
theorem get_do.calls (w : World) (A : Nat → Prop) (r : Nat) (st : Rem) (h : RemAt w A r st) (name b0 : ByteArray) (hn : name.size ≤ 140737488351232) (pr pn pb : Nat)
  (hr : w.heap[pr]? = some (.cells #[.pointer (some ⟨r, 0, none⟩)] 37)) (hnm : w.heap[pn]? = some (.cells #[.string name] 9)) (hb : w.heap[pb]? = some (.cells #[.string b0] 9)) (ha : ¬ A pb) :
  Calls Tryz.prog 77 #[.pointer (some ⟨pr, 0, none⟩), .pointer (some ⟨pn, 0, none⟩), .pointer (some ⟨pb, 0, none⟩)] w fun e w' =>
   e = .returned (.int .i64 (ifAny (look st.m name) 0 5)) ∧ RemAt w' A r st ∧ w'.heap[pb]? = some (.cells #[.string ((look st.m name).getD b0)] 9) ∧ Frm (fun k => k = pb) w w' := by
 have h0 := h
 obtain ⟨mb, sv, a1, a2, hbk, hm, hq⟩ := h
 have HB := Aside0.mk hbk
 have HM := Aside0.mk hm
 have HA := Aside0.mk h0
 have HN := Aside0.mk hn
 have HR := Aside0.mk hr
 have HNM := Aside0.mk hnm
 have HPB := Aside0.mk hb
 clear hbk hm hq hn h0 hr hnm hb
 go_enter Tryz.func77, Tryz.ntmps77
 go_wp2_with fail
 refine region_still (by kernel_rfl) (by kernel_rfl) (fun W => W.heap[pr]? = some (.cells #[.pointer (some ⟨r, 0, none⟩)] 37) ∧ W.heap[pn]? = some (.cells #[.string name] 9) ∧ W.heap[pb]? = some (.cells #[.string b0] 9) ∧ W.heap[r]? = some (.cells #[.map (some mb), sv, .int .i64 st.n] 85) ∧ MapOf Tryz.prog 9 Value.string Value.string W mb st.m ∧ RemAt W A r st ∧ Frm (fun k => k = pb) w W)
  ⟨HR.out, HNM.out, HPB.out, HB.out, HM.out.drew, HA.out.frm (S := None') (Frm.refl _ w).drew (fun _ _ x => x), (Frm.refl _ w).drew⟩ ?_
 rintro w2 ⟨x2, y2, z2, b2, m2, q2, f2⟩
 obtain ⟨c0, c1, c2, fr⟩ := cells3 b2
 obtain ⟨d0, dr⟩ := cells1 x2
 obtain ⟨e0, er⟩ := cells1 y2
 obtain ⟨g0, gr'⟩ := cells1 z2
 have A2 := Aside0.mk q2
 have F2 := Aside0.mk f2
 have Z2 := Aside0.mk z2
 cases hl : look st.m name with
 | none =>
  have hlk := MapOf.absent strInj strKeyed m2 Tryz.underlying83 (strOk HN.out) (zeroStr w2) hl
  have HL := Aside0.mk hl
  clear b2 x2 y2 z2 m2 q2 f2 hl
  repeat still_step
  refine wpStill_nil ?_
  go_wp2_with fail
  go_ret
  exact ⟨by rw [HL.out]; rfl, A2.out, by simpa [HL.out] using Z2.out, F2.out⟩
 | some v =>
  have hlk := MapOf.found strInj strKeyed m2 Tryz.underlying83 (strOk HN.out) (zeroStr w2) hl
  have HL := Aside0.mk hl
  clear b2 x2 y2 z2 m2 q2 f2 hl
  repeat still_step
  refine wpStill_nil ?_
  go_wp2_with fail
  go_ret
  exact ⟨by rw [HL.out]; rfl, A2.out.frm ((Frm.refl (fun k => k = pb) _).setCell (Or.inl rfl) _) (fun k hk e => ha (e ▸ hk)), by simpa [HL.out] using blk_set Z2.out 0 _, F2.out.setCell (Or.inl rfl) _⟩

theorem RemAt.alloc {w : World} {A : Nat → Prop} {r : Nat} {st : Rem} (h : RemAt w A r st) (o : Obj) : RemAt (w.alloc o) A r st := h.frm (S := None') ((Frm.refl _ w).alloc o) (fun _ _ x => x)
set_option maxHeartbeats 3200000 in
set_option maxRecDepth 100000 in
theorem remote_Get.calls (w : World) (A : Nat → Prop) (r : Nat) (st : Rem) (h : RemAt w A r st) (name : ByteArray) (hn : name.size ≤ 140737488351232) :
  Calls Tryz.prog 46 #[.pointer (some ⟨r, 0, none⟩), .string name] w fun e w' => e = .returned (.tuple #[.string (st.get name).2.1, .int .i64 (st.get name).2.2]) ∧ RemAt w' (gr A w) r (st.get name).1 ∧ Frm A w w' := by
 have H0 := Aside0.mk h.bound
 have HN := Aside0.mk hn
 clear h hn
 go_enter Tryz.func46, Tryz.ntmps46
 go_wp2_with fail
 refine rebase (fun W => RemAt W (fun k => A k ∧ k < w.heap.size) r st ∧ Frm (fun k => A k ∧ k < w.heap.size) w W ∧ W.heap[w.heap.size]? = some (.cells #[.pointer (some ⟨r, 0, none⟩)] 37) ∧ W.heap[w.heap.size + 1]? = some (.cells #[.string name] 9) ∧ W.heap[w.heap.size + 1 + 1]? = some (.cells #[.string ⟨#[]⟩] 9))
  ⟨((H0.out.alloc _).alloc _).alloc _, (((Frm.refl _ _).alloc _).alloc _).alloc _, blk_alloc (blk_alloc (blk_new _ _) _) _, by simpa using blk_alloc (blk_new (w.alloc (.cells #[.pointer (some ⟨r, 0, none⟩)] 37)) _) _, by simpa using blk_new ((w.alloc (.cells #[.pointer (some ⟨r, 0, none⟩)] 37)).alloc (.cells #[.string name] 9)) _⟩ ?_
 rintro w1 ⟨h1, f1, p1, p2, p3⟩
 have n2 : ¬ (A (w.heap.size + 1 + 1) ∧ w.heap.size + 1 + 1 < w.heap.size) := fun x => by omega
 have n1 : ¬ (A (w.heap.size + 1) ∧ w.heap.size + 1 < w.heap.size) := fun x => by omega
 have n0 : ¬ (A w.heap.size ∧ w.heap.size < w.heap.size) := fun x => by omega
 have HC := Aside0.mk (remote_call.calls w1 (fun k => A k ∧ k < w.heap.size) r st h1 77 _ Tryz.func77 (by kernel_rfl) (by kernel_rfl) #[] #[.pointer (some ⟨w.heap.size, 0, none⟩), .pointer (some ⟨w.heap.size + 1, 0, none⟩), .pointer (some ⟨w.heap.size + 1 + 1, 0, none⟩)]
  (fun W w' x => x = ifAny (look st.m name) 0 5 ∧ RemAt w' (fun k => A k ∧ k < w.heap.size) r st.next ∧ w'.heap[w.heap.size + 1 + 1]? = some (.cells #[.string ((look st.m name).getD ⟨#[]⟩)] 9) ∧ Frm (fun k => k = w.heap.size + 1 + 1) W w')
  (fun W hW hF => (get_do.calls W _ r st.next hW name ⟨#[]⟩ HN.out w.heap.size (w.heap.size + 1) (w.heap.size + 1 + 1) (hF.keeps p1 n0) (hF.keeps p2 n1) (hF.keeps p3 n2) n2).mono fun e w' ⟨he, h1, h2, h3⟩ => ⟨_, he, rfl, h1, h2, h3⟩))
 refine HC.out.mono ?_
 have F1 := Aside0.mk f1
 have P3 := Aside0.mk p3
 clear h1 f1 p1 p2 p3 n0 n1 n2
 rintro e w2 (⟨g1, rfl, g2, g3⟩ | ⟨g1, W, x, y, g2, g3, ⟨gx, g4, g5, g6⟩, gy, rfl⟩)
 ·have A1 := Aside0.mk g1
  have A2 := Aside0.mk g2
  have A3 := Aside0.mk g3
  clear g1 g2 g3
  go_wp2_with fail
  go_ret2
  have e1 : st.get name = (st.next, ⟨#[]⟩, 9) := by simp [Rem.get, A1.out]
  rw [e1]
  exact ⟨rfl, A2.out.mono fun k _ hk => Or.inl hk.1, (F1.out.andThen A3.out (fun i hi => Or.inl hi)).mono fun k _ hk => hk.1⟩
 ·have A1 := Aside0.mk g1
  have A4 := Aside0.mk g4
  have A5 := Aside0.mk g5
  have A6 := Aside0.mk ((F1.out.andThen g3 (fun i hi => Or.inl hi)).andThen g6 (fun i hi => Or.inr (by omega)))
  obtain ⟨q0, qr⟩ := cells1 g5
  rw [gx] at gy
  clear g1 g2 g3 g4 g5 g6 gx
  by_cases hf2 : st.fate = 2
  ·rw [if_pos hf2] at gy
   subst gy
   have HF := Aside0.mk hf2
   clear hf2
   go_wp2_with fail
   go_ret2
   have e1 : st.get name = (st.next, ⟨#[]⟩, 9) := by simp [Rem.get, HF.out]
   rw [e1]
   exact ⟨rfl, A4.out.mono fun k _ hk => Or.inl hk.1, A6.out.mono fun k _ hk => hk.1⟩
  ·rw [if_neg hf2] at gy
   cases hl : look st.m name with
   | none =>
    rw [hl] at gy
    obtain rfl : y = 5 := gy
    have e1 := Aside0.mk (show st.get name = (st.next, ⟨#[]⟩, 5) by simp [Rem.get, A1.out, hf2, hl])
    clear hl hf2
    go_wp2_with fail
    go_ret2
    rw [e1.out]
    exact ⟨rfl, A4.out.mono fun k _ hk => Or.inl hk.1, A6.out.mono fun k _ hk => hk.1⟩
   | some v =>
    rw [hl] at gy
    obtain rfl : y = 0 := gy
    have e1 := Aside0.mk (show st.get name = (st.next, v, 0) by simp [Rem.get, A1.out, hf2, hl])
    rw [hl] at q0
    replace q0 : w2.cell? ⟨w.heap.size + 1 + 1, 0, none⟩ = some (.string v) := q0
    clear hl hf2
    go_wp2_with fail
    go_ret2
    rw [e1.out]
    exact ⟨rfl, A4.out.mono fun k _ hk => Or.inl hk.1, A6.out.mono fun k _ hk => hk.1⟩
end Go.Proofs.YtlnbekaldemebaaGreatDoor.Thw
/-! ## Layer 7: the document's list of objects, and the map's: plain laws. -/
namespace Go.Proofs.YtlnbekaldemebaaGreatDoor.Thw
open Go Go.RowKit Go.Maps Go.Proofs.YtlnbekaldemebaaGreatDoorW.PrintWords Go.Proofs.YtlnbekaldemebaaGreatDoorW.PrintLast Go.Proofs.YtlnbekaldemebaaGreatDoorW.PrintMore
set_option linter.unusedVariables false
set_option linter.unusedSimpArgs false
abbrev RObj := ByteArray × ByteArray
abbrev Fls := List (ByteArray × ByteArray)
def names (m : Fls) : List ByteArray := sorted (m.map (·.1))
def fileIn (m : Fls) (name : ByteArray) : ByteArray := (look m name).getD ⟨#[]⟩
def sl (a b : ByteArray) : Prop := a.data.toList < b.data.toList
theorem bs_inj {a b : ByteArray} (h : a.data.toList = b.data.toList) : a = b := WideShapes.bytes_inj h
theorem sl_irrefl (a : ByteArray) : ¬ sl a a := List.lt_irrefl _
theorem sl_trans {a b c : ByteArray} (h : sl a b) (k : sl b c) : sl a c := List.lt_trans h k
theorem sl_asymm {a b : ByteArray} (h : sl a b) (k : sl b a) : False := sl_irrefl a (sl_trans h k)
theorem sl_tri (a b : ByteArray) (h : ¬ sl a b) (hn : a ≠ b) : sl b a := by
 have h1 : b.data.toList ≤ a.data.toList := List.not_lt.1 h
 rcases List.le_iff_lt_or_eq.1 h1 with h2 | h2
 ·exact h2
 ·exact absurd (bs_inj h2).symm hn
theorem sorted_pw {l : List ByteArray} (hn : l.Nodup) : (sorted l).Pairwise sl := by
 have tr : ∀ a b c : List UInt8, leB a b = true → leB b c = true → leB a c = true := fun a b c h1 h2 => by simp only [leB, decide_eq_true_eq] at *; exact List.le_trans h1 h2
 have tot : ∀ a b : List UInt8, (leB a b || leB b a) = true := fun a b => by simp only [leB, Bool.or_eq_true, decide_eq_true_eq]; exact List.le_total a b
 have h1 := List.pairwise_mergeSort tr tot (l.map fun s => s.data.toList)
 have h2 : (sorted l).Nodup := (sorted_perm' l).nodup_iff.2 hn
 have h3 : (sorted l).Pairwise fun a b => leB a.data.toList b.data.toList = true := by
  unfold sorted
  refine List.pairwise_map.2 (h1.imp fun {a b} h => by simpa using h)
 refine (h3.and h2).imp fun {a b} h => ?_
 obtain ⟨h4, h5⟩ := h
 simp only [leB, decide_eq_true_eq] at h4
 rcases List.le_iff_lt_or_eq.1 h4 with h6 | h6
 ·exact h6
 ·exact absurd (bs_inj h6) h5
theorem pw_unique {l l' : List ByteArray} (h : l.Perm l') (h1 : l.Pairwise sl) (h2 : l'.Pairwise sl) : l = l' :=
 List.Perm.eq_of_pairwise (le := sl) (fun a b _ _ x y => (sl_asymm x y).elim) h1 h2 h
theorem names_perm (m : Fls) : (names m).Perm (m.map (·.1)) := sorted_perm' _
theorem names_pw {m : Fls} (hn : (m.map (·.1)).Nodup) : (names m).Pairwise sl := sorted_pw hn
theorem mem_names {m : Fls} {s : ByteArray} : s ∈ names m ↔ s ∈ m.map (·.1) := (names_perm m).mem_iff
def refL (m : Fls) : List RObj := (names m).map fun s => (s, fileIn m s)
theorem refL_length (m : Fls) : (refL m).length = m.length := by simp [refL, names, sorted_length]
theorem refL_names (m : Fls) : (refL m).map (·.1) = names m := by
 unfold refL
 rw [List.map_map]
 exact List.map_id _
theorem mem_keys_iff (m : Fls) (k : ByteArray) : k ∈ m.map (·.1) ↔ (look m k).isSome = true := by
 rw [look_some_of_any, List.any_eq_true]
 constructor
 ·intro h
  obtain ⟨p, hp, e⟩ := List.mem_map.1 h
  exact ⟨p, hp, by simpa using e⟩
 ·rintro ⟨p, hp, e⟩
  exact List.mem_map.2 ⟨p, hp, by simpa using e⟩
theorem refL_ext {m m' : Fls} (hn : (m.map (·.1)).Nodup) (hn' : (m'.map (·.1)).Nodup) (h : ∀ k, look m k = look m' k) : refL m = refL m' := by
 have hp : (m.map (·.1)).Perm (m'.map (·.1)) := (List.perm_ext_iff_of_nodup hn hn').2 fun k => by rw [mem_keys_iff, mem_keys_iff, h]
 have e : names m = names m' := pw_unique ((names_perm m).trans (hp.trans (names_perm m').symm)) (names_pw hn) (names_pw hn')
 unfold refL
 rw [e]
 refine List.map_congr_left fun s _ => ?_
 simp [fileIn, h]
def wo (L : List RObj) (k : ByteArray) : List RObj := L.filter fun x => decide (x.1 ≠ k)
def slB (a b : ByteArray) : Bool := Op.bytesLess a.toList b.toList
theorem slB_eq (a b : ByteArray) : slB a b = true ↔ sl a b := by
 unfold slB sl
 rw [bytesLess_eq, Lib.toList_data, Lib.toList_data]
 simp
def wi (L : List RObj) (x : RObj) : List RObj := L.takeWhile (fun y => slB y.1 x.1) ++ x :: L.dropWhile (fun y => slB y.1 x.1)
theorem nodup_del {m : Fls} (hn : (m.map (·.1)).Nodup) (k : ByteArray) : ((del m k).map (·.1)).Nodup := ((List.filter_sublist).map _).nodup hn
theorem names_del {m : Fls} (hn : (m.map (·.1)).Nodup) (k : ByteArray) : names (del m k) = (names m).filter fun s => decide (s ≠ k) := by
 refine pw_unique ?_ (names_pw (nodup_del hn k)) ((names_pw hn).filter _)
 refine (names_perm _).trans (List.Perm.trans ?_ ((names_perm m).symm.filter _))
 unfold del
 rw [List.filter_map]
 exact List.Perm.refl _
theorem fileIn_del {m : Fls} {k s : ByteArray} (h : s ≠ k) : fileIn (del m k) s = fileIn m s := by
 unfold fileIn; rw [look_del_other m (Ne.symm h)]
theorem wo_refL {m : Fls} (hn : (m.map (·.1)).Nodup) (k : ByteArray) : wo (refL m) k = refL (del m k) := by
 unfold wo refL
 rw [names_del hn, List.filter_map]
 have e : ((fun x : RObj => decide (x.1 ≠ k)) ∘ fun s => ((s, fileIn m s) : RObj)) = fun s => decide (s ≠ k) := rfl
 rw [e]
 refine List.map_congr_left fun s hs => ?_
 have := (List.mem_filter.1 hs).2
 rw [fileIn_del (by simpa using this)]
theorem ins_pw {l : List ByteArray} {k : ByteArray} (h : l.Pairwise sl) (hk : k ∉ l) : (l.takeWhile (fun s => slB s k) ++ k :: l.dropWhile (fun s => slB s k)).Pairwise sl := by
 induction l with
 | nil => simp
 | cons x l ih =>
  simp only [List.pairwise_cons] at h
  simp only [List.mem_cons, not_or] at hk
  by_cases hx : slB x k = true
  ·rw [List.takeWhile_cons, if_pos hx, List.dropWhile_cons, if_pos hx, List.cons_append, List.pairwise_cons]
   refine ⟨fun b hb => ?_, ih h.2 hk.2⟩
   have hx' := (slB_eq _ _).1 hx
   rcases List.mem_append.1 hb with hb | hb
   ·exact h.1 b ((List.takeWhile_sublist _).mem hb)
   ·rcases List.mem_cons.1 hb with rfl | hb
    ·exact hx'
    ·exact h.1 b ((List.dropWhile_sublist _).mem hb)
  ·rw [List.takeWhile_cons, if_neg hx, List.dropWhile_cons, if_neg hx, List.nil_append, List.pairwise_cons]
   have hkx : sl k x := sl_tri x k (fun y => hx ((slB_eq _ _).2 y)) (Ne.symm hk.1)
   refine ⟨fun b hb => ?_, List.pairwise_cons.2 h⟩
   rcases List.mem_cons.1 hb with rfl | hb
   ·exact hkx
   ·exact sl_trans hkx (h.1 b hb)
theorem nodup_put {m : Fls} (hn : (m.map (·.1)).Nodup) {k : ByteArray} (hk : k ∉ m.map (·.1)) (f : ByteArray) : ((put m k f).map (·.1)).Nodup := by
 rw [put_none (fun p hp e => hk (by rw [← e]; exact List.mem_map.2 ⟨p, hp, rfl⟩)), List.map_append]
 simp only [List.map_cons, List.map_nil]
 exact List.nodup_append.2 ⟨hn, by simp, fun a ha b hb => by simp at hb; subst hb; exact fun e => hk (e ▸ ha)⟩
theorem names_put {m : Fls} (hn : (m.map (·.1)).Nodup) {k : ByteArray} (hk : k ∉ m.map (·.1)) (f : ByteArray) : names (put m k f) = (names m).takeWhile (fun s => slB s k) ++ k :: (names m).dropWhile (fun s => slB s k) := by
 refine pw_unique ?_ (names_pw (nodup_put hn hk f)) (ins_pw (names_pw hn) (fun h => hk (mem_names.1 h)))
 refine (names_perm _).trans ?_
 rw [put_none (fun p hp e => hk (by rw [← e]; exact List.mem_map.2 ⟨p, hp, rfl⟩)), List.map_append]
 refine List.Perm.trans ?_ List.perm_middle.symm
 rw [List.takeWhile_append_dropWhile]
 exact (List.perm_append_comm).trans ((names_perm m).symm.cons k)
theorem fileIn_put_same (m : Fls) (k : ByteArray) (f : ByteArray) : fileIn (put m k f) k = f := by unfold fileIn; rw [look_put_same]; rfl
theorem fileIn_put_other (m : Fls) {k s : ByteArray} (h : s ≠ k) (f : ByteArray) : fileIn (put m k f) s = fileIn m s := by unfold fileIn; rw [look_put_other m (Ne.symm h)]
theorem wi_refL {m : Fls} (hn : (m.map (·.1)).Nodup) {k : ByteArray} (hk : k ∉ m.map (·.1)) (f : ByteArray) : wi (refL m) (k, f) = refL (put m k f) := by
 have hne : ∀ s ∈ names m, s ≠ k := fun s hs e => hk (mem_names.1 (e ▸ hs))
 unfold wi refL
 rw [names_put hn hk, List.takeWhile_map, List.dropWhile_map, List.map_append, List.map_cons, fileIn_put_same]
 have e : ((fun y : RObj => slB y.1 k) ∘ fun s => ((s, fileIn m s) : RObj)) = fun s => slB s k := rfl
 simp only [e]
 congr 1
 ·refine List.map_congr_left fun s hs => ?_
  rw [fileIn_put_other m (hne s ((List.takeWhile_sublist _).mem hs))]
 ·congr 1
  refine List.map_congr_left fun s hs => ?_
  rw [fileIn_put_other m (hne s ((List.dropWhile_sublist _).mem hs))]
theorem not_mem_del (m : Fls) (k : ByteArray) : k ∉ (del m k).map (·.1) := by
 rw [mem_keys_iff, look_del_same]; simp
theorem nodup_put' {m : Fls} (hn : (m.map (·.1)).Nodup) (k : ByteArray) (f : ByteArray) : ((put m k f).map (·.1)).Nodup := by
 by_cases h : k ∈ m.map (·.1)
 ·obtain ⟨p, hp, e⟩ := List.mem_map.1 h
  have : (put m k f).map (·.1) = m.map (·.1) := by
   unfold put
   rw [if_pos (List.any_eq_true.2 ⟨p, hp, by simpa using e⟩), List.map_map]
   refine List.map_congr_left fun q _ => ?_
   simp only [Function.comp]
   split
   ·rename_i hq; exact hq.symm
   ·rfl
  rw [this]; exact hn
 ·exact nodup_put hn h f
theorem wi_wo {m : Fls} (hn : (m.map (·.1)).Nodup) (k : ByteArray) (f : ByteArray) : wi (wo (refL m) k) (k, f) = refL (put m k f) := by
 rw [wo_refL hn, wi_refL (nodup_del hn k) (not_mem_del m k)]
 refine refL_ext (nodup_put (nodup_del hn k) (not_mem_del m k) f) (nodup_put' hn k f) fun s => ?_
 by_cases h : k = s
 ·subst h; rw [look_put_same, look_put_same]
 ·rw [look_put_other _ h, look_put_other _ h, look_del_other _ h]
end Go.Proofs.YtlnbekaldemebaaGreatDoor.Thw
/-! ## Layer 7: Delete and List. -/
namespace Go.Proofs.YtlnbekaldemebaaGreatDoor.Thw
open Go Go.RowKit Go.Maps Go.Proofs.YtlnbekaldemebaaGreatDoorW.PrintWords Go.Proofs.YtlnbekaldemebaaGreatDoorW.PrintLast Go.Proofs.YtlnbekaldemebaaGreatDoorW.PrintMore
set_option linter.unusedVariables false
set_option linter.unusedSimpArgs false
def Rem.delete (st : Rem) (name : ByteArray) : Rem × Int := if st.fate = 1 then (st.next, 9) else ({ st.next with m := Thw.del st.m name }, if st.fate = 2 then 9 else 0)
def Rem.list (st : Rem) : List ByteArray × Int := if st.fate = 1 ∨ st.fate = 2 then ([], 9) else (names st.m, 0)
set_option maxHeartbeats 3200000 in
set_option maxRecDepth 100000 in
theorem del_do.calls (w : World) (A : Nat → Prop) (r : Nat) (st : Rem) (h : RemAt w A r st) (name : ByteArray) (hn : name.size ≤ 140737488351232) (pr pn : Nat)
  (hr : w.heap[pr]? = some (.cells #[.pointer (some ⟨r, 0, none⟩)] 37)) (hnm : w.heap[pn]? = some (.cells #[.string name] 9)) :
  Calls Tryz.prog 64 #[.pointer (some ⟨pr, 0, none⟩), .pointer (some ⟨pn, 0, none⟩)] w fun e w' => e = .returned (.int .i64 0) ∧ RemAt w' A r { st with m := Thw.del st.m name } ∧ Frm A w w' := by
 obtain ⟨mb, sv, a1, a2, hbk, hm, hq⟩ := h
 have HB := Aside0.mk hbk
 have HM := Aside0.mk hm
 have HQ := Aside0.mk hq
 have HK := Aside0.mk (strOk hn)
 have HR := Aside0.mk hr
 have HNM := Aside0.mk hnm
 clear hbk hm hq hn hr hnm
 go_enter Tryz.func64, Tryz.ntmps64
 go_wp2_with fail
 refine region_tail 5 (by kernel_rfl) (by kernel_rfl) (fun W => W.heap[pr]? = some (.cells #[.pointer (some ⟨r, 0, none⟩)] 37) ∧ W.heap[pn]? = some (.cells #[.string name] 9) ∧ W.heap[r]? = some (.cells #[.map (some mb), sv, .int .i64 st.n] 85) ∧ MapOf Tryz.prog 9 Value.string Value.string W mb st.m ∧ (Kd.int .i64).Q 3 W 0 A sv st.s ∧ Frm A w W)
  ⟨HR.out, HNM.out, HB.out, HM.out.drew, Kd.Q_drew HQ.out, (Frm.refl A w).drew⟩ ?_
 rintro w2 ⟨x2, y2, b2, m2, q2, f2⟩
 obtain ⟨c0, c1, c2, fr⟩ := cells3 b2
 obtain ⟨d0, dr⟩ := cells1 x2
 obtain ⟨e0, er⟩ := cells1 y2
 have B2 := Aside0.mk b2
 have M2 := Aside0.mk m2
 have Q2 := Aside0.mk q2
 have F2 := Aside0.mk f2
 clear b2 x2 y2 m2 q2 f2
 simp only [List.take_succ_cons, List.take_zero, List.drop_succ_cons, List.drop_zero]
 repeat still_step
 refine wpStill_nil ?_
 refine wpList_delete_of strInj strKeyed w2 rfl _ _ 83 9 _ rfl Tryz.underlying83 mb st.m rfl M2.out name rfl HK.out ?_
 rintro w3 m3 f3 z3
 have M3 := Aside0.mk m3
 have F3 := Aside0.mk f3
 clear m3 f3 z3 c0 c1 c2 fr d0 dr e0 er
 go_wp2_with fail
 go_ret
 have hne := MapOf.ne M2.out B2.out
 obtain ⟨es, cl, hes, _⟩ := M2.out
 exact ⟨rfl, ⟨mb, sv, a1, a2, F3.out.keeps B2.out hne, M3.out, Q_notmap Q2.out hes F3.out⟩, F2.out.andThen F3.out (fun i e => by rw [e]; exact Or.inl a2)⟩
set_option maxHeartbeats 3200000 in
set_option maxRecDepth 100000 in
theorem remote_Delete.calls (w : World) (A : Nat → Prop) (r : Nat) (st : Rem) (h : RemAt w A r st) (name : ByteArray) (hn : name.size ≤ 140737488351232) :
  Calls Tryz.prog 26 #[.pointer (some ⟨r, 0, none⟩), .string name] w fun e w' => e = .returned (.int .i64 (st.delete name).2) ∧ RemAt w' (gr A w) r (st.delete name).1 ∧ Frm A w w' := by
 have H0 := Aside0.mk h.bound
 have HN := Aside0.mk hn
 clear h hn
 go_enter Tryz.func26, Tryz.ntmps26
 go_wp2_with fail
 refine rebase (fun W => RemAt W (fun k => A k ∧ k < w.heap.size) r st ∧ Frm (fun k => A k ∧ k < w.heap.size) w W ∧ W.heap[w.heap.size]? = some (.cells #[.pointer (some ⟨r, 0, none⟩)] 37) ∧ W.heap[w.heap.size + 1]? = some (.cells #[.string name] 9))
  ⟨(H0.out.alloc _).alloc _, ((Frm.refl _ _).alloc _).alloc _, blk_alloc (blk_new _ _) _, by simpa using blk_new (w.alloc (.cells #[.pointer (some ⟨r, 0, none⟩)] 37)) _⟩ ?_
 rintro w1 ⟨h1, f1, p1, p2⟩
 have n1 : ¬ (A (w.heap.size + 1) ∧ w.heap.size + 1 < w.heap.size) := fun x => by omega
 have n0 : ¬ (A w.heap.size ∧ w.heap.size < w.heap.size) := fun x => by omega
 have HC := Aside0.mk (remote_call.calls w1 (fun k => A k ∧ k < w.heap.size) r st h1 64 _ Tryz.func64 (by kernel_rfl) (by kernel_rfl) #[] #[.pointer (some ⟨w.heap.size, 0, none⟩), .pointer (some ⟨w.heap.size + 1, 0, none⟩)]
  (fun W w' x => x = 0 ∧ RemAt w' (fun k => A k ∧ k < w.heap.size) r { st.next with m := Thw.del st.m name } ∧ Frm (fun k => A k ∧ k < w.heap.size) W w')
  (fun W hW hF => (del_do.calls W _ r st.next hW name HN.out w.heap.size (w.heap.size + 1) (hF.keeps p1 n0) (hF.keeps p2 n1)).mono fun e w' ⟨he, h1, h2⟩ => ⟨_, he, rfl, h1, h2⟩))
 refine HC.out.mono ?_
 have F1 := Aside0.mk f1
 clear h1 f1 p1 p2 n0 n1
 rintro e w2 (⟨g1, rfl, g2, g3⟩ | ⟨g1, W, x, y, g2, g3, ⟨gx, g4, g6⟩, gy, rfl⟩)
 ·have A1 := Aside0.mk g1
  have A2 := Aside0.mk g2
  have A3 := Aside0.mk g3
  clear g1 g2 g3
  go_wp2_with fail
  go_ret
  have e1 : st.delete name = (st.next, 9) := by simp [Rem.delete, A1.out]
  rw [e1]
  exact ⟨rfl, A2.out.mono fun k _ hk => Or.inl hk.1, (F1.out.andThen A3.out (fun i hi => Or.inl hi)).mono fun k _ hk => hk.1⟩
 ·have A1 := Aside0.mk g1
  have A4 := Aside0.mk g4
  have A6 := Aside0.mk ((F1.out.andThen g3 (fun i hi => Or.inl hi)).andThen g6 (fun i hi => Or.inl hi))
  rw [gx] at gy
  have AY := Aside0.mk gy
  clear g1 g2 g3 g4 g6 gx gy
  go_wp2_with fail
  go_ret
  have e1 : st.delete name = ({ st.next with m := Thw.del st.m name }, y) := by simp [Rem.delete, A1.out, AY.out]
  rw [e1]
  exact ⟨rfl, A4.out.mono fun k _ hk => Or.inl hk.1, A6.out.mono fun k _ hk => hk.1⟩
theorem keys.calls (mb : Nat) (W : World) : Calls Tryz.prog 80 #[.map (some mb)] W fun e w' => e = .returned (.func (.func 112) #[] #[.pointer (some ⟨W.heap.size, 0, none⟩)]) ∧ w' = W.alloc (.cells #[.map (some mb)] 83) :=
 callsIn_wide.1 (Go.Proofs.Tryz.maps_Keys_80 (some mb) W)
theorem sortedKeys.calls (w : World) (mb : Nat) (m : Fls) (h : MapOf Tryz.prog 9 Value.string Value.string w mb m) (hlen : m.length ≤ 1000000) :
  Calls Tryz.prog 79 #[.func (.func 112) #[] #[.pointer (some ⟨w.heap.size, 0, none⟩)]] (w.alloc (.cells #[.map (some mb)] 83)) fun e w' =>
   ∃ v, e = .returned v ∧ Kd.string.R 9 w' w.heap.size (fun _ => True) v (names m) ∧ Below w.heap.size w w' := by
 obtain ⟨D0, hown, hsz, hp⟩ := h.owns Tryz.underlying9 (by unfold maxLen; omega)
 refine (callsIn_wide.1 (Go.Proofs.Tryz.slices_Sorted_keys_79_80 mb m.length D0 anyElem w hown (by rw [hsz]; unfold maxLen; omega) (by rw [hsz]; omega))).mono ?_
 rintro e w' ⟨v, ss, rfl, hperm, hrow, _, hb⟩
 refine ⟨v, rfl, ?_, ?_⟩
 ·have := R_sorted (l := m.map (·.1)) hrow (by rw [List.map_map]; exact hperm.trans hp)
  exact Kd.R_lower this (by simp)
 ·exact ((Below.refl _ w).alloc (Nat.le_refl _) _).trans (hb.mono (by simp))
theorem list_do.calls (w : World) : Calls Tryz.prog 78 #[] w fun e w' => e = .returned (.int .i64 0) ∧ w = w' := by
 go_enter Tryz.func78, Tryz.ntmps78
 go_wp2_with fail
 go_ret
 exact ⟨rfl, rfl⟩
def ListPost (w : World) (A : Nat → Prop) (r : Nat) (st : Rem) (e : Ending) (w' : World) : Prop := ∃ v, e = .returned (.tuple #[v, .int .i64 st.list.2]) ∧ Kd.string.R 9 w' w.heap.size (fun _ => True) v st.list.1 ∧ RemAt w' A r st.next ∧ Frm A w w'
set_option maxHeartbeats 3200000 in
set_option maxRecDepth 100000 in
theorem remote_List.calls (w : World) (A : Nat → Prop) (r : Nat) (st : Rem) (h : RemAt w A r st) (hA : ∀ k, A k → k < w.heap.size) (hlen : st.m.length ≤ 1000000) :
  Calls Tryz.prog 47 #[.pointer (some ⟨r, 0, none⟩)] w (ListPost w A r st) := by
 have HA := Aside0.mk hA
 have HL := Aside0.mk hlen
 have HC := Aside0.mk (remote_call.calls w A r st h 78 _ Tryz.func78 (by kernel_rfl) (by kernel_rfl) #[] #[]
  (fun W w' x => x = 0 ∧ W = w') (fun W hW hF => (list_do.calls W).mono fun e w' ⟨he, h1⟩ => ⟨_, he, rfl, h1⟩))
 clear h hA hlen
 go_enter Tryz.func47, Tryz.ntmps47
 go_wp2_with fail
 refine HC.out.mono ?_
 rintro e w2 (⟨g1, rfl, g2, g3⟩ | ⟨g1, W, x, y, g2, g3, ⟨gx, gw⟩, gy, rfl⟩)
 ·have A1 := Aside0.mk g1
  have A2 := Aside0.mk g2
  have A3 := Aside0.mk g3
  clear g1 g2 g3
  go_wp2_with fail
  go_ret2
  have e1 : st.list = ([], 9) := by simp [Rem.list, A1.out]
  unfold ListPost
  rw [e1]
  exact ⟨_, rfl, Kd.R_nil _ _ _ _ _, A2.out, A3.out⟩
 ·subst gw
  rw [gx] at gy
  have A1 := Aside0.mk g1
  have A2 := Aside0.mk g2
  have A3 := Aside0.mk g3
  clear g1 g2 g3 gx
  by_cases h2 : st.fate = 2
  ·rw [if_pos h2] at gy
   subst gy
   have e1 : st.list = ([], 9) := by simp [Rem.list, h2]
   have AE := Aside0.mk e1
   clear h2 e1
   go_wp2_with fail
   go_ret2
   unfold ListPost
   rw [AE.out]
   exact ⟨_, rfl, Kd.R_nil _ _ _ _ _, A2.out, A3.out⟩
  ·rw [if_neg h2] at gy
   subst gy
   have e1 : st.list = (names st.m, 0) := by
    have h1 := A1.out
    simp [Rem.list, h1, h2]
   have AE := Aside0.mk e1
   clear h2 e1
   obtain ⟨mb, sv, a1, a2, hb, hm, hq⟩ := A2.out
   obtain ⟨c0, c1, c2, fr⟩ := cells3 hb
   have HS := Aside0.mk (sortedKeys.calls W mb st.next.m hm HL.out)
   clear hb hm hq
   go_wp2_with fail
   refine (keys.calls mb W).mono ?_
   rintro e w1 ⟨rfl, rfl⟩
   go_wp2_with fail
   refine HS.out.mono ?_
   rintro e w3 ⟨v, rfl, hR, hB⟩
   obtain ⟨A2', cc, rfl, hcc, hC⟩ := Kd.R_reads hR
   have HR := Aside0.mk hR
   have HB := Aside0.mk hB
   clear hR hB hC c0 c1 c2 fr HS
   go_wp2_with fail
   go_ret2
   unfold ListPost
   rw [AE.out]
   exact ⟨_, rfl, Kd.R_lower HR.out A3.out.size, A2.out.frm (S := None') (Frm.of_new HB.out) (fun _ _ x => x), A3.out.andThen (Frm.of_new (S := None') HB.out) (fun _ x => x.elim)⟩
end Go.Proofs.YtlnbekaldemebaaGreatDoor.Thw
/-! ## Stores into a row of structs of one's own, and 'clear' of its end (the same as XEv15c, for layer 10). No printed text in sight. -/
namespace Go.Proofs.YtlnbekaldemebaaGreatDoor.Thw
open Go Go.RowKit Go.Proofs.YtlnbekaldemebaaGreatDoorW.PrintWords Go.Proofs.YtlnbekaldemebaaGreatDoorW.PrintLast Go.Proofs.YtlnbekaldemebaaGreatDoorW.PrintMore
set_option linter.unusedVariables false
set_option linter.unusedSimpArgs false
def putL : Array Value → Nat → List Value → Array Value
 | cur, _, [] => cur
 | cur, o, v :: r => putL (cur.setIfInBounds o v) (o + 1) r
theorem putL_size : ∀ (L : List Value) (cur : Array Value) (o : Nat), (putL cur o L).size = cur.size
 | [], _, _ => rfl
 | v :: r, cur, o => by rw [putL, putL_size r]; simp
theorem putL_before : ∀ (L : List Value) (cur : Array Value) (o j : Nat), j < o → (putL cur o L)[j]? = cur[j]?
 | [], _, _, _, _ => rfl
 | v :: r, cur, o, j, h => by rw [putL, putL_before r _ _ _ (by omega), Array.getElem?_setIfInBounds_ne (by omega)]
theorem putL_behind : ∀ (L : List Value) (cur : Array Value) (o j : Nat), o + L.length ≤ j → (putL cur o L)[j]? = cur[j]?
 | [], _, _, _, _ => rfl
 | v :: r, cur, o, j, h => by
  rw [List.length_cons] at h
  rw [putL, putL_behind r _ _ _ (by omega), Array.getElem?_setIfInBounds_ne (by omega)]
theorem putL_in : ∀ (L : List Value) (cur : Array Value) (o i : Nat), o + L.length ≤ cur.size → i < L.length → (putL cur o L)[o + i]? = L[i]?
 | [], _, _, _, _, h => absurd h (by simp)
 | v :: r, cur, o, 0, h, _ => by
  rw [List.length_cons] at h
  simp only [Nat.add_zero]
  rw [putL, putL_before _ _ _ _ (by omega), Array.getElem?_setIfInBounds_self_of_lt (by omega)]
  rfl
 | v :: r, cur, o, i + 1, h, hi => by
  rw [List.length_cons] at h hi
  rw [putL, show o + (i + 1) = o + 1 + i by omega, putL_in r _ _ _ (by simp; omega) (by omega)]
  rfl
theorem setCells_block : ∀ (L : List Value) (w : World) (g o : Nat) {cur : Array Value} {e : Nat}, w.heap[g]? = some (.cells cur e (0, 0)) → (w.setCells g o L).heap[g]? = some (.cells (putL cur o L) e (0, 0))
 | [], _, _, _, _, _, h => h
 | v :: r, w, g, o, cur, e, h => by
  rw [World.setCells, putL]
  exact setCells_block r _ g (o + 1) (by simp [World.setCell, Array.getElem?_modify, h])
theorem setCells_frm : ∀ (L : List Value) (w : World) (g o : Nat), Frm (fun i => i = g) w (w.setCells g o L)
 | [], w, _, _ => Frm.refl _ w
 | v :: r, w, g, o => by
  rw [World.setCells]
  exact ((Frm.refl (fun i => i = g) w).setCell (Or.inl rfl) v).trans (setCells_frm r _ g (o + 1)) (fun _ _ h => h) (fun _ _ h => h)
section
variable {α : Type}
/-- One struct of a row of one's own is written anew. -/
theorem R_setK {d : Kd α} {enc : α → List Value} (hE : ∀ w base ok x cs, d.M w base ok x cs → cs = enc x) (hM : ∀ w base ok x, d.M w base ok x (enc x)) (hk : ∀ x, (enc x).length = d.sz)
  {e base g n c : Nat} {ok : Nat → Prop} {w : World} {ys : List α} (h : d.R e w base ok (.slice (some ⟨g, 0, none⟩) n c) ys) (i : Nat) (hi : i < ys.length) (x : α) :
  d.R e (w.setCells g (i * d.sz) (enc x)) base ok (.slice (some ⟨g, 0, none⟩) n c) (ys.set i x) := by
 obtain ⟨hok, inner, ⟨hlen, hown⟩, hrl, hrw⟩ := h
 rcases hown with ⟨hv, h0⟩ | ⟨g', cap, cur, hv, hb, hg, hc1, hc2, hcs, htk⟩
 ·cases hv
 injection hv with hv1 hv2 hv3
 injection hv1 with hv1
 injection hv1 with hv1
 subst hv1 hv2 hv3
 have hle : ys.length * d.sz ≤ c * d.sz := Nat.mul_le_mul_right _ hc1
 have hik : i * d.sz + d.sz ≤ ys.length * d.sz := by have := Nat.mul_le_mul_right d.sz (show i + 1 ≤ ys.length from hi); rwa [Nat.add_mul, Nat.one_mul] at this
 have hbl := setCells_block (enc x) w g (i * d.sz) hg
 have hsl : (ys.set i x).length = ys.length := List.length_set
 have hps : (putL cur (i * d.sz) (enc x)).toList.length = c * d.sz := by rw [Array.length_toList, putL_size, hcs]
 have hin : ∀ j, j < ys.length * d.sz → cur[j]? = inner[j]? := fun j hj => by rw [← htk, List.getElem?_take, if_pos hj, Array.getElem?_toList]
 refine ⟨hok, (putL cur (i * d.sz) (enc x)).toList.take (ys.length * d.sz), ⟨by rw [hsl, List.length_take, hps]; omega, .inr ⟨g, c, _, by rw [hsl], hb, hbl, by rw [hsl]; exact hc1, hc2, by rw [putL_size, hcs], by rw [hsl]⟩⟩, by rw [hsl, List.length_take, hps]; omega, fun j p hp => ?_⟩
 have hj : j < ys.length := by have := (List.getElem?_eq_some_iff.1 hp).1; omega
 have hjk : j * d.sz + d.sz ≤ ys.length * d.sz := by have := Nat.mul_le_mul_right d.sz (show j + 1 ≤ ys.length from hj); rwa [Nat.add_mul, Nat.one_mul] at this
 have hwin : ∀ t, t < d.sz → ((List.take d.sz (List.drop (j * d.sz) ((putL cur (i * d.sz) (enc x)).toList.take (ys.length * d.sz))))[t]? = (putL cur (i * d.sz) (enc x))[j * d.sz + t]?) := fun t ht => by
  rw [List.getElem?_take, if_pos ht, List.getElem?_drop, List.getElem?_take, if_pos (by omega), Array.getElem?_toList]
 have hall : List.take d.sz (List.drop (j * d.sz) ((putL cur (i * d.sz) (enc x)).toList.take (ys.length * d.sz))) = enc p := by
  apply List.ext_getElem?
  intro t
  by_cases ht : t < d.sz
  ·rw [hwin t ht]
   by_cases hji : j = i
   ·subst hji
    have hpx : p = x := by rw [List.getElem?_set_self hi] at hp; exact (Option.some.inj hp).symm
    rw [hpx, putL_in (enc x) cur (j * d.sz) t (by rw [hk]; omega) (by rw [hk]; exact ht)]
   ·have hpy : ys[j]? = some p := by rw [List.getElem?_set_ne (fun e => hji e.symm)] at hp; exact hp
    have hw := hE _ _ _ _ _ (hrw j p hpy)
    rw [← hw, List.getElem?_take, if_pos ht, List.getElem?_drop, ← hin _ (by omega)]
    rcases Nat.lt_or_ge j i with hlt | hge
    ·refine putL_before _ _ _ _ ?_
     have := Nat.mul_le_mul_right d.sz (show j + 1 ≤ i from hlt)
     rw [Nat.add_mul, Nat.one_mul] at this
     omega
    ·refine putL_behind _ _ _ _ ?_
     rw [hk]
     have := Nat.mul_le_mul_right d.sz (show i + 1 ≤ j by omega)
     rw [Nat.add_mul, Nat.one_mul] at this
     omega
  ·rw [List.getElem?_eq_none (by rw [List.length_take]; omega), List.getElem?_eq_none (by rw [hk]; omega)]
 rw [hall]
 exact hM _ _ _ p
/-- What is written behind the first i structs does not touch these. -/
theorem R_frontK {d : Kd α} {enc : α → List Value} (hE : ∀ w base ok x cs, d.M w base ok x cs → cs = enc x) (hM : ∀ w base ok x, d.M w base ok x (enc x)) (hk : ∀ x, (enc x).length = d.sz)
  {e base g n c : Nat} {ok : Nat → Prop} {w : World} {ys : List α} (h : d.R e w base ok (.slice (some ⟨g, 0, none⟩) n c) ys) (i : Nat) (hi : i ≤ ys.length) (L : List Value) :
  d.R e (w.setCells g (i * d.sz) L) base ok (.slice (some ⟨g, 0, none⟩) i c) (ys.take i) := by
 obtain ⟨hok, inner, ⟨hlen, hown⟩, hrl, hrw⟩ := h
 rcases hown with ⟨hv, h0⟩ | ⟨g', cap, cur, hv, hb, hg, hc1, hc2, hcs, htk⟩
 ·cases hv
 injection hv with hv1 hv2 hv3
 injection hv1 with hv1
 injection hv1 with hv1
 subst hv1 hv2 hv3
 have hle : ys.length * d.sz ≤ c * d.sz := Nat.mul_le_mul_right _ hc1
 have hik : i * d.sz ≤ ys.length * d.sz := Nat.mul_le_mul_right _ hi
 have hbl := setCells_block L w g (i * d.sz) hg
 have hsl : (ys.take i).length = i := by rw [List.length_take]; omega
 have e1 : (putL cur (i * d.sz) L).toList.take (i * d.sz) = inner.take (i * d.sz) := by
  apply List.ext_getElem?
  intro t
  rw [List.getElem?_take, List.getElem?_take]
  by_cases ht : t < i * d.sz
  ·rw [if_pos ht, if_pos ht, Array.getElem?_toList, putL_before _ _ _ _ ht, ← htk, List.getElem?_take, if_pos (by omega), Array.getElem?_toList]
  ·rw [if_neg ht, if_neg ht]
 refine ⟨fun k hk => hok k hk, inner.take (i * d.sz), ⟨by rw [hsl, List.length_take]; omega, .inr ⟨g, c, _, by rw [hsl], hb, hbl, by rw [hsl]; omega, hc2, by rw [putL_size, hcs], by rw [hsl]; exact e1⟩⟩, by rw [hsl, List.length_take]; omega, fun j p hp => ?_⟩
 rw [List.getElem?_take] at hp
 have hji : j < i := by
  rcases Nat.lt_or_ge j i with h | h
  ·exact h
  ·rw [if_neg (by omega)] at hp; cases hp
 rw [if_pos hji] at hp
 have hw := hE _ _ _ _ _ (hrw j p hp)
 have hjk : j * d.sz + d.sz ≤ i * d.sz := by have := Nat.mul_le_mul_right d.sz (show j + 1 ≤ i from hji); rwa [Nat.add_mul, Nat.one_mul] at this
 have hall : List.take d.sz (List.drop (j * d.sz) (inner.take (i * d.sz))) = enc p := by
  rw [← hw]
  apply List.ext_getElem?
  intro t
  rw [List.getElem?_take, List.getElem?_take]
  by_cases ht : t < d.sz
  ·rw [if_pos ht, if_pos ht, List.getElem?_drop, List.getElem?_drop, List.getElem?_take, if_pos (by omega)]
  ·rw [if_neg ht, if_neg ht]
 rw [hall]
 exact hM _ _ _ p
end
/-- 'clear(s)' at structs. -/
theorem run_clear_row {P : Program} (w : World) (t e ty : TypeId) (z : Value) (ht : P.underlying t = some (.slice e)) (hv : ∀ w, (zeroValue e).run P w = .ok z w) (h1 : ∀ u ∈ z.cells.toList, u.oneCell' = true) (b o n c : Nat) (hn : 0 < n)
  (hc : ∀ j, j < n * z.cells.size → (w.cell? ⟨b, o + j, none⟩).isSome = true) (hf : ∀ j, j < n * z.cells.size → w.frozen? ⟨b, o + j, none⟩ = false) :
  (Builtin.clear_ #[t] ty #[.slice (some ⟨b, o, none⟩) n c]).run P w = .ok (.tuple #[]) (w.setCells b o (Builtin.zeroCells z.cells n).toList) := by
 have hlen : (Builtin.zeroCells z.cells n).toList.length = n * z.cells.size := by simp [Builtin.zeroCells]
 have hst := run_storeCells_cells (P := P) b o (Builtin.zeroCells z.cells n).toList 0 w (by rw [hlen]; simpa using hc) (by rw [hlen]; simpa using hf) (by
  intro v hv'
  simp only [Builtin.zeroCells, Array.toList_map, List.mem_map] at hv'
  obtain ⟨j, hj, rfl⟩ := hv'
  have hj2 : j < n * z.cells.size := by simpa using hj
  have hz : 0 < z.cells.size := Nat.pos_of_ne_zero fun h0 => by rw [h0] at hj2; omega
  rw [getElem!_pos z.cells (j % z.cells.size) (Nat.mod_lt _ hz)]
  exact h1 _ (by simp))
 simp only [Nat.add_zero] at hst
 obtain ⟨m, rfl⟩ : ∃ m, n = m + 1 := ⟨n - 1, by omega⟩
 simp [Builtin.clear_, run_underlying ht, hv, hst]
end Go.Proofs.YtlnbekaldemebaaGreatDoor.Thw
/-! ## Layer 13 (publish): Upload, Fetch (printed by gen13a.py). -/
namespace Go.Proofs.YtlnbekaldemebaaGreatDoor.Thw
open Go Go.RowKit Go.Maps Go.Proofs.YtlnbekaldemebaaGreatDoor.Print Go.Proofs.YtlnbekaldemebaaGreatDoorW.PrintWords Go.Proofs.YtlnbekaldemebaaGreatDoorW.PrintLast Go.Proofs.YtlnbekaldemebaaGreatDoorW.PrintMore
set_option linter.unusedVariables false
set_option linter.unusedSimpArgs false
theorem region_draw {P : Program} {ops : Array Oper} {Q : Exit → Act → World → Prop} {S : World → Prop} {ds : List Nat} {id n : Nat} {a : Act} {w : World} (l : Array Bool) (hm : P.follows .mixedOrders = true) (hn : ops.size = n) (hl : Array.replicate n false = l)
  (F : World → Prop) (hF : F w.drew) (hFS : ∀ W, F W → S W) (h : ∀ W, F W → wpAnyLast P .any ops Q S ds n l a W) : (Code.region id ops true).wp P Q a w := start_ l hm hn hl (hFS _ hF) (fun _ => h _ hF)
def fetch4T : Bool × List (List Nat × List Nat) := (true, [([], []), ([0], [0]), ([], []), ([1, 2], [1, 2]), ([], []), ([3, 4], [3, 4]), ([5, 3], [5])])
def fetch4B : List Nat := [0, 1, 0, 7, 0, 31, 63]
theorem fetch4tab : rtab .any (opsOf Tryz.f17 4) = fetch4T := by kernel_rfl
theorem fetch4bits : waitsOk fetch4T.2 fetch4B = true := by kernel_rfl

theorem nameB_size (c : UInt8) (n f : Int) : (nameB c n f).size ≤ 7 := by
 unfold nameB nameL
 split
 ·show (B []).size ≤ 7; decide
 ·rw [B_size, List.length_cons, six_length]; omega
theorem obj_size (n : Int) : (nameB 111 n 0).size ≤ 140737488351232 := by have := nameB_size 111 n 0; omega
theorem man_size (n : Int) : (nameB 109 n 1).size ≤ 140737488351232 := by have := nameB_size 109 n 1; omega
theorem results_row_tmp {P : Program} {fn : Func} {p q : Tmp} {ty : TypeId} (h : fn.results = #[.cell p ty, .tmp q]) (tmps : Array Value) (w : World) (g : Nat) (t : TypeId) (cs : Array Value) (fr : Nat × Nat) (d : TypeDesc)
  (hp : tmps.getD p undef = .pointer (some ⟨g, 0, none⟩)) (hg : w.heap[g]? = some (.cells cs t fr))
  (hu : P.underlying ty = some d) (hd : (match d with | .struct _ | .array _ _ => true | _ => false) = true) (hi : (P.info? ty).map (·.size) = some cs.size) :
  (results fn tmps).run P w = .ok (.tuple #[.agg cs, tmps.getD q undef]) w := by
 have hp' : tmps[p]?.getD undef = .pointer (some ⟨g, 0, none⟩) := by simpa using hp
 simp [results, h, hp', asAddr, run_loadVar_row w g t ty cs fr d hg hu hd hi]
theorem seg_put {w : World} {g : Nat} {v0 v1 v2 : Value} {t : TypeId} (h : w.heap[g]? = some (.cells #[v0, v1, v2] t)) (u0 u1 u2 : Value) :
  (((w.setCell ⟨g, 0, none⟩ u0).setCell ⟨g, 1, none⟩ u1).setCell ⟨g, 2, none⟩ u2).heap[g]? = some (.cells #[u0, u1, u2] t) := by
 simp [World.setCell, Array.getElem?_modify, h]
theorem cells3f {w : World} {s : Nat} {v0 v1 v2 : Value} {t : TypeId} (h : w.heap[s]? = some (.cells #[v0, v1, v2] t)) :
  w.cell? ⟨s, 0, none⟩ = some v0 ∧ w.cell? ⟨s, 1, none⟩ = some v1 ∧ w.cell? ⟨s, 2, none⟩ = some v2 ∧ ∀ i, w.frozen? ⟨s, i, none⟩ = false := by
 refine ⟨?_, ?_, ?_, fun i => ?_⟩ <;> simp [World.cell?, World.frozen?, h]
/-! ### what they come to -/
abbrev obj (n : Int) : ByteArray := nameB 111 n 0
abbrev mnf (n : Int) : ByteArray := nameB 109 n 1
def zSg : SgI := ⟨0, 0, 0⟩
def sgOf (n : Int) (b : ByteArray) : SgI := ⟨n, b.size, ((sumS2 (L b) : Nat) : Int)⟩
abbrev segV (s : SgI) : Value := .agg #[.int .i64 s.f0, .int .i64 s.f1, .int .u32 s.f2]
def sgEq (a b : SgI) : Bool := a.f0 == b.f0 && (a.f1 == b.f1 && (a.f2 == b.f2))
def pubUpload (st : Rem) (n : Int) (b : ByteArray) : Rem × SgI × Int :=
 if n < 0 ∨ 999999 < n ∨ 1048576 < b.size then (st, zSg, 1)
 else if ((st.put (obj n) b).1.get (obj n)).2.2 ≠ 0 then (((st.put (obj n) b).1.get (obj n)).1, zSg, ((st.put (obj n) b).1.get (obj n)).2.2)
 else if ((st.put (obj n) b).1.get (obj n)).2.1 ≠ b then (((st.put (obj n) b).1.get (obj n)).1, zSg, 4)
 else (((st.put (obj n) b).1.get (obj n)).1, sgOf n b, 0)
def pubFetch (st : Rem) (s : SgI) : Rem × ByteArray × Int :=
 if (st.get (obj s.f0)).2.2 ≠ 0 then ((st.get (obj s.f0)).1, ⟨#[]⟩, (st.get (obj s.f0)).2.2)
 else if sgEq (sgOf s.f0 (st.get (obj s.f0)).2.1) s = false then ((st.get (obj s.f0)).1, ⟨#[]⟩, 4)
 else ((st.get (obj s.f0)).1, (st.get (obj s.f0)).2.1, 0)
/-- The remote, from world to world. -/
structure RSt (w : World) (T : Nat → Prop) (r : Nat) (x : Rem) (w' : World) (T' : Nat → Prop) : Prop where
 at_ : RemAt w' T' r x
 sub : ∀ k, T' k → gr T w k ∧ k < w'.heap.size
 frm : Frm T w w'
section
variable {w w1 w' w'' : World} {T T' : Nat → Prop} {r : Nat} {x y : Rem}
theorem RSt.refl (h : RemAt w T r x) (hT : ∀ k, T k → k < w.heap.size) : RSt w T r x w T := ⟨h, fun k hk => ⟨Or.inl hk, hT k hk⟩, Frm.refl _ _⟩
theorem RSt.below (h : RSt w T r x w' T') (b : Below w'.heap.size w' w'') : RSt w T r x w'' T' :=
 ⟨h.at_.frm (S := None') (Frm.of_new b) (fun _ _ x => x), fun k hk => ⟨(h.sub k hk).1, Nat.lt_of_lt_of_le (h.sub k hk).2 b.size⟩, h.frm.andThen (Frm.of_new (S := T') b) (fun i hi => (h.sub i hi).1)⟩
theorem RSt.step (h : RSt w T r x w' T') (h' : RemAt w'' (gr T' w') r y) (f : Frm T' w' w'') : RSt w T r y w'' (fun k => gr T' w' k ∧ k < w''.heap.size) :=
 ⟨h'.mono fun k hk hg => ⟨hg, hk⟩, fun k hk => ⟨hk.1.elim (fun ht => (h.sub k ht).1) (fun hle => Or.inr (Nat.le_trans h.frm.size hle)), hk.2⟩, h.frm.andThen f (fun i hi => (h.sub i hi).1)⟩
theorem RSt.keeps (h : RSt w T r x w' T') {g : Nat} {o : Obj} (hg : w.heap[g]? = some o) (hn : ¬ T g) : w'.heap[g]? = some o := h.frm.keeps hg hn
theorem RSt.not (h : RSt w T r x w' T') {g : Nat} (hg : g < w.heap.size) (hn : ¬ T g) : ¬ T' g := fun hk => (h.sub g hk).1.elim hn (fun hle => by omega)
/-- What a call leaves. -/
def RPo (w : World) (T : Nat → Prop) (r : Nat) (x : Rem) (w' : World) : Prop := ∃ T', RSt w T r x w' T'
theorem RSt.back (h : RSt w1 T r x w' T') (hb : Below w.heap.size w w1) : RSt w T r x w' T' :=
 ⟨h.at_, fun k hk => ⟨(h.sub k hk).1.imp id (fun hle => Nat.le_trans hb.size hle), (h.sub k hk).2⟩, (Frm.of_new (S := T) hb).andThen h.frm (fun i hi => Or.inl hi)⟩
theorem RSt.put3 (h : RSt w T r x w' T') {g : Nat} (hg : w.heap.size ≤ g) (hn : ¬ T' g) (u0 u1 u2 : Value) : RSt w T r x (((w'.setCell ⟨g, 0, none⟩ u0).setCell ⟨g, 1, none⟩ u1).setCell ⟨g, 2, none⟩ u2) T' := by
 have f3 : Frm (fun i => i = g) w' (((w'.setCell ⟨g, 0, none⟩ u0).setCell ⟨g, 1, none⟩ u1).setCell ⟨g, 2, none⟩ u2) := (((Frm.refl (fun i => i = g) w').setCell (Or.inl rfl) _).setCell (Or.inl rfl) _).setCell (Or.inl rfl) _
 refine ⟨h.at_.frm f3 (fun k hk e => hn (e ▸ hk)), fun k hk => ⟨(h.sub k hk).1, Nat.lt_of_lt_of_le (h.sub k hk).2 f3.size⟩, h.frm.andThen f3 (fun i hi => Or.inr (by rw [hi]; exact hg))⟩
end
set_option maxHeartbeats 6400000 in
set_option maxRecDepth 100000 in
theorem pub_Upload.calls (w : World) (T : Nat → Prop) (r : Nat) (st : Rem) (h : RemAt w T r st) (hT : ∀ k, T k → k < w.heap.size) (hAW : ∀ W, Frm T w W → LaidW W) (n : Int) (hn : -9223372036854775808 ≤ n ∧ n ≤ 9223372036854775807) (b : ByteArray) (hbz : b.size ≤ 140737488351232) :
  Calls Tryz.prog 16 #[.pointer (some ⟨r, 0, none⟩), .int .i64 n, .string b] w fun e w' =>
   e = .returned (.tuple #[segV (pubUpload st n b).2.1, .int .i64 (pubUpload st n b).2.2]) ∧ RPo w T r (pubUpload st n b).1 w' := by
 have H := Aside0.mk h
 have HT := Aside0.mk hT
 have HAW := Aside0.mk hAW
 have HBZ := Aside0.mk hbz
 clear h hT hAW hbz
 obtain ⟨X, hX⟩ : ∃ X, pubUpload st n b = X := ⟨_, rfl⟩
 rw [hX]
 have HX := Aside0.mk hX
 clear hX
 go_enter Tryz.func16, Tryz.ntmps16
 go_upto_region 1 with (fail)
 obtain ⟨w1, hw1⟩ : ∃ w1, w.alloc (.cells #[.int .i64 0, .int .i64 0, .int .u32 0] 45) = w1 := ⟨_, rfl⟩
 have XR := Aside0.mk (show w1.heap[w.heap.size]? = some (.cells #[.int .i64 0, .int .i64 0, .int .u32 0] 45) by rw [← hw1]; exact blk_new _ _)
 have B1 := Aside0.mk (show Below w.heap.size w w1 by rw [← hw1]; exact (Below.refl _ w).alloc (Nat.le_refl _) _)
 have R1 := Aside0.mk (show RSt w1 T r st w1 T by rw [← hw1]; exact RSt.refl (H.out.alloc _) (fun k hk => by have := HT.out k hk; simp; omega))
 rw [hw1]
 clear hw1
 obtain ⟨gq, hgq⟩ : ∃ g, w.heap.size = g := ⟨_, rfl⟩
 have HG := Aside0.mk (show w.heap.size ≤ gq by omega)
 have HNT := Aside0.mk (show ¬ T gq from fun hk => by have := HT.out _ hk; omega)
 rw [hgq] at XR ⊢
 clear hgq
 have HGL := Aside0.mk (lt_of_block XR.out)
 have bad := Aside0.mk (show (n < 0 ∨ 999999 < n ∨ 1048576 < b.size) → X = (st, zSg, 1) from fun hb => by rw [← HX.out]; unfold pubUpload; rw [if_pos hb])
 by_cases h1 : n < 0
 ·have d1 : decide (n < 0) = true := decide_eq_true (by omega)
  have hbad := Aside0.mk (bad.out (by omega))
  obtain ⟨c0, c1, c2, fr⟩ := cells3f XR.out
  go_wp2_with fail
  refine bodyPost_ret (v := .tuple #[segV zSg, .int .i64 1]) (results_row_tmp (q := 7) rfl _ _ gq _ _ (0, 0) _ rfl (seg_put XR.out _ _ _) Tryz.underlying45 rfl (by kernel_rfl)) rfl ?_
  rw [hbad.out]
  exact ⟨rfl, _, (R1.out.back B1.out).put3 HG.out HNT.out _ _ _⟩
 have d1 : decide (n < 0) = false := decide_eq_false (by omega)
 by_cases h2 : 999999 < n
 ·have d2 : decide (999999 < n) = true := decide_eq_true (by omega)
  have hbad := Aside0.mk (bad.out (by omega))
  obtain ⟨c0, c1, c2, fr⟩ := cells3f XR.out
  go_wp2_with fail
  refine bodyPost_ret (v := .tuple #[segV zSg, .int .i64 1]) (results_row_tmp (q := 7) rfl _ _ gq _ _ (0, 0) _ rfl (seg_put XR.out _ _ _) Tryz.underlying45 rfl (by kernel_rfl)) rfl ?_
  rw [hbad.out]
  exact ⟨rfl, _, (R1.out.back B1.out).put3 HG.out HNT.out _ _ _⟩
 have d2 : decide (999999 < n) = false := decide_eq_false (by omega)
 by_cases h3 : 1048576 < b.size
 ·have d3 : decide ((1048576 : Int) < (b.size : Int)) = true := decide_eq_true (by omega)
  have hbad := Aside0.mk (bad.out (by omega))
  obtain ⟨c0, c1, c2, fr⟩ := cells3f XR.out
  go_wp2_with fail
  refine bodyPost_ret (v := .tuple #[segV zSg, .int .i64 1]) (results_row_tmp (q := 7) rfl _ _ gq _ _ (0, 0) _ rfl (seg_put XR.out _ _ _) Tryz.underlying45 rfl (by kernel_rfl)) rfl ?_
  rw [hbad.out]
  exact ⟨rfl, _, (R1.out.back B1.out).put3 HG.out HNT.out _ _ _⟩
 have d3 : decide ((1048576 : Int) < (b.size : Int)) = false := decide_eq_false (by omega)
 have hok : ¬ (n < 0 ∨ 999999 < n ∨ 1048576 < b.size) := by omega
 have e1 := Aside0.mk (show (if ((st.put (obj n) b).1.get (obj n)).2.2 ≠ 0 then (((st.put (obj n) b).1.get (obj n)).1, zSg, ((st.put (obj n) b).1.get (obj n)).2.2)
  else if ((st.put (obj n) b).1.get (obj n)).2.1 ≠ b then (((st.put (obj n) b).1.get (obj n)).1, zSg, 4)
  else (((st.put (obj n) b).1.get (obj n)).1, sgOf n b, 0)) = X by rw [← HX.out]; unfold pubUpload; rw [if_neg hok])
 clear bad hok
 go_wp2_with fail
 refine (man_Object.calls n hn _ (HAW.out _ (R1.out.back B1.out).frm)).mono ?_
 rintro e w2 ⟨rfl, b2⟩
 have R2 := Aside0.mk (R1.out.below b2)
 clear b2 R1
 go_wp2_with fail
 refine (remote_Put.calls w2 T r st R2.out.at_ (obj n) b (obj_size n)).mono ?_
 rintro e w3 ⟨rfl, h3, f3⟩
 have R3 := Aside0.mk (R2.out.step h3 f3)
 clear h3 f3 R2
 go_wp2_with fail
 refine (man_Object.calls n hn _ (HAW.out _ (R3.out.back B1.out).frm)).mono ?_
 rintro e w4 ⟨rfl, b4⟩
 have R4 := Aside0.mk (R3.out.below b4)
 clear b4 R3
 go_wp2_with fail
 refine (remote_Get.calls w4 _ r (st.put (obj n) b).1 R4.out.at_ (obj n) (obj_size n)).mono ?_
 rintro e w5 ⟨rfl, h5, f5⟩
 have R5 := Aside0.mk (R4.out.step h5 f5)
 have XR5 := Aside0.mk (R5.out.keeps XR.out HNT.out)
 have N5 := Aside0.mk (R5.out.not HGL.out HNT.out)
 generalize (st.put (obj n) b).1.get (obj n) = gt at e1 R5 ⊢
 obtain ⟨g1, g2, g3⟩ := gt
 simp only at e1 R5 ⊢
 clear h5 f5 R4 XR
 obtain ⟨c0, c1, c2, fr⟩ := cells3f XR5.out
 by_cases he : g3 = 0
 ·subst he
  rw [if_neg (by simp)] at e1
  by_cases hc : g2 = b
  ·subst hc
   rw [if_neg (by simp)] at e1
   have heq : (g2.toList == g2.toList) = true := beq_self_eq_true _
   obtain ⟨z, hz⟩ : ∃ z, ((sumS2 (L g2) : Nat) : Int) = z := ⟨_, rfl⟩
   have HOF := Aside0.mk (manifest_Of_S n g2 (by have := HBZ.out; omega))
   have HSG := Aside0.mk (show sgOf n g2 = ⟨n, g2.size, z⟩ by unfold sgOf; rw [hz])
   rw [hz] at HOF
   clear hz
   go_wp2_with fail
   refine (manifest_Of.calls n g2 _ _ _ _ HOF.out).mono ?_
   rintro e w6 ⟨rfl, b6⟩
   have R6 := Aside0.mk (R5.out.below b6)
   have XR6 := Aside0.mk (blk_below XR5.out b6)
   clear b6 c0 c1 c2 fr
   obtain ⟨c0, c1, c2, fr⟩ := cells3f XR6.out
   go_wp2_with fail
   refine bodyPost_ret (v := .tuple #[.agg #[.int .i64 n, .int .i64 (g2.size : Int), .int .u32 z], .int .i64 0]) (results_row_tmp (q := 7) rfl _ _ gq _ _ (0, 0) _ rfl (seg_put XR6.out _ _ _) Tryz.underlying45 rfl (by kernel_rfl)) rfl ?_
   rw [← e1.out, HSG.out]
   exact ⟨rfl, _, (R6.out.back B1.out).put3 HG.out N5.out _ _ _⟩
  ·rw [if_pos hc] at e1
   have heq : (g2.toList == b.toList) = false := beq_eq_false_iff_ne.2 (fun e => hc (WideShapes.bytes_inj (by rw [Lib.toList_data, Lib.toList_data] at e; exact e)))
   go_wp2_with fail
   refine bodyPost_ret (v := .tuple #[segV zSg, .int .i64 4]) (results_row_tmp (q := 7) rfl _ _ gq _ _ (0, 0) _ rfl (seg_put XR5.out _ _ _) Tryz.underlying45 rfl (by kernel_rfl)) rfl ?_
   rw [← e1.out]
   exact ⟨rfl, _, (R5.out.back B1.out).put3 HG.out N5.out _ _ _⟩
 ·rw [if_pos he] at e1
  have heq : (g3 == 0) = false := beq_eq_false_iff_ne.2 he
  go_wp2_with fail
  refine bodyPost_ret (v := .tuple #[segV zSg, .int .i64 g3]) (results_row_tmp (q := 7) rfl _ _ gq _ _ (0, 0) _ rfl (seg_put XR5.out _ _ _) Tryz.underlying45 rfl (by kernel_rfl)) rfl ?_
  rw [← e1.out]
  exact ⟨rfl, _, (R5.out.back B1.out).put3 HG.out N5.out _ _ _⟩
set_option maxHeartbeats 6400000 in
set_option maxRecDepth 100000 in
theorem pub_Fetch.calls (w : World) (T : Nat → Prop) (r : Nat) (st : Rem) (h : RemAt w T r st) (hT : ∀ k, T k → k < w.heap.size) (hAW : ∀ W, Frm T w W → LaidW W) (s : SgI) (hn : -9223372036854775808 ≤ s.f0 ∧ s.f0 ≤ 9223372036854775807) (hbz : ∀ k b, look st.m k = some b → b.size ≤ 140737488351232) :
  Calls Tryz.prog 17 #[.pointer (some ⟨r, 0, none⟩), segV s] w fun e w' =>
   e = .returned (.tuple #[.string (pubFetch st s).2.1, .int .i64 (pubFetch st s).2.2]) ∧ RPo w T r (pubFetch st s).1 w' := by
 have H := Aside0.mk h
 have HT := Aside0.mk hT
 have HAW := Aside0.mk hAW
 have HZ := Aside0.mk (show (st.get (obj s.f0)).2.1.size ≤ 140737488351232 by
  unfold Rem.get
  split
  ·exact Nat.zero_le _
  ·cases hl : look st.m (obj s.f0) with
   | none => exact Nat.zero_le _
   | some b => exact hbz _ b hl)
 clear h hT hAW hbz
 obtain ⟨X, hX⟩ : ∃ X, pubFetch st s = X := ⟨_, rfl⟩
 rw [hX]
 have HX := Aside0.mk hX
 have e1 := Aside0.mk (show (if (st.get (obj s.f0)).2.2 ≠ 0 then ((st.get (obj s.f0)).1, ⟨#[]⟩, (st.get (obj s.f0)).2.2)
  else if sgEq (sgOf s.f0 (st.get (obj s.f0)).2.1) s = false then ((st.get (obj s.f0)).1, ⟨#[]⟩, 4)
  else ((st.get (obj s.f0)).1, (st.get (obj s.f0)).2.1, 0)) = X by rw [← hX]; rfl)
 clear hX HX
 obtain ⟨s0, s1, s2⟩ := s
 simp only at hn e1 HZ ⊢
 go_enter Tryz.func17, Tryz.ntmps17
 go_upto_region 1 with (fail)
 obtain ⟨w1, hw1⟩ : ∃ w1, w.alloc (.cells #[.int .i64 s0, .int .i64 s1, .int .u32 s2] 45) = w1 := ⟨_, rfl⟩
 have XP := Aside0.mk (show w1.heap[w.heap.size]? = some (.cells #[.int .i64 s0, .int .i64 s1, .int .u32 s2] 45) by rw [← hw1]; exact blk_new _ _)
 have B1 := Aside0.mk (show Below w.heap.size w w1 by rw [← hw1]; exact (Below.refl _ w).alloc (Nat.le_refl _) _)
 have R1 := Aside0.mk (show RSt w1 T r st w1 T by rw [← hw1]; exact RSt.refl (H.out.alloc _) (fun k hk => by have := HT.out k hk; simp; omega))
 rw [hw1]
 clear hw1
 obtain ⟨gp, hgp⟩ : ∃ g, w.heap.size = g := ⟨_, rfl⟩
 have HNT := Aside0.mk (show ¬ T gp from fun hk => by have := HT.out _ hk; omega)
 rw [hgp] at XP ⊢
 clear hgp
 obtain ⟨p0, p1, p2, fp⟩ := cells3f XP.out
 go_wp2_with fail
 refine (man_Object.calls s0 hn _ (HAW.out _ (R1.out.back B1.out).frm)).mono ?_
 rintro e w2 ⟨rfl, b2⟩
 have R2 := Aside0.mk (R1.out.below b2)
 clear b2 R1 p0 p1 p2 fp
 go_wp2_with fail
 refine (remote_Get.calls w2 T r st R2.out.at_ (obj s0) (obj_size s0)).mono ?_
 rintro e w3 ⟨rfl, h3, f3⟩
 obtain ⟨T3, R3⟩ : ∃ T3, Aside0 (RSt w1 T r (st.get (obj s0)).1 w3 T3) := ⟨_, ⟨R2.out.step h3 f3⟩⟩
 have XP3 := Aside0.mk (R3.out.keeps XP.out HNT.out)
 generalize st.get (obj s0) = gt at e1 R3 HZ ⊢
 obtain ⟨g1, g2, g3⟩ := gt
 simp only at e1 R3 HZ ⊢
 clear h3 f3 R2 XP
 by_cases he : g3 = 0
 ·subst he
  rw [if_neg (by simp)] at e1
  obtain ⟨z, hz⟩ : ∃ z, ((sumS2 (L g2) : Nat) : Int) = z := ⟨_, rfl⟩
  have HOF := Aside0.mk (manifest_Of_S s0 g2 (by have := HZ.out; omega))
  have HSG := Aside0.mk (show sgEq (sgOf s0 g2) ⟨s0, s1, s2⟩ = (((g2.size : Int) == s1) && (z == s2)) by
   unfold sgEq sgOf
   rw [hz]
   simp)
  rw [hz] at HOF
  clear hz
  have hq : ∀ W : World, (binOp BinOp.neq 45 (.agg #[.int .i64 s0, .int .i64 (g2.size : Int), .int .u32 z]) (.agg #[.int .i64 s0, .int .i64 s1, .int .u32 s2])).run Tryz.prog W = .ok (.bool (!(((g2.size : Int) == s1) && (z == s2)))) W := fun W => by
   simp [binOp, Op.equal, Op.maxDepth, eqSeg 9998 W]
  rw [HSG.out] at e1
  generalize hbb : (((g2.size : Int) == s1) && (z == s2)) = bb at hq e1
  clear hbb HSG
  go_wp2_with fail
  refine region_draw (n := 7) (S := fun W => W.heap[gp]? = some (.cells #[.int .i64 s0, .int .i64 s1, .int .u32 s2] 45)) (ds := []) #[false, false, false, false, false, false, false] (by kernel_rfl) rfl rfl (fun W => RSt w1 T r g1 W T3 ∧ W.heap[gp]? = some (.cells #[.int .i64 s0, .int .i64 s1, .int .u32 s2] 45)) ⟨R3.out.below (below_drew1 (Below.refl _ _)), blk_drew XP3.out⟩ (fun W h => h.2) ?_
  rintro wy ⟨ry, xy⟩
  refine with_tabW fetch4tab fetch4bits (fun HT_ HW_ => ?_)
  have RY := Aside0.mk ry
  have XY := Aside0.mk xy
  clear ry xy
  refine pure_ (i := 0) (N := some 21) (v := ?_) (a' := ?_) #[true, false, false, false, false, false, false] rfl rfl (any_of HT_.out (by kernel_rfl)) (fun _ _ _ h => h) (Or.inl ⟨by rfl, ?_⟩) ?_ ?_
  rotate_left
  ·intro w'
   go_simp
   with_reducible rfl
  rotate_left
  ·simp only [Act.put, List.setIfInBounds_toArray, List.set_cons_zero, List.set_cons_succ, i64_w, i32_w]
   rfl
  refine pure_ (i := 2) (N := some 23) (v := ?_) (a' := ?_) #[true, false, true, false, false, false, false] rfl rfl (any_of HT_.out (by kernel_rfl)) (fun _ _ _ h => h) (Or.inl ⟨by rfl, ?_⟩) ?_ ?_
  rotate_left
  ·intro w'
   go_simp
   with_reducible rfl
  rotate_left
  ·simp only [Act.put, List.setIfInBounds_toArray, List.set_cons_zero, List.set_cons_succ, i64_w, i32_w]
   rfl
  refine take_ (i := 1) (N := some 22) (v := ?_) (a' := ?_) #[true, true, true, false, false, false, false] rfl rfl (take_ofW HT_.out HW_.out (by kernel_rfl)) (fun _ _ _ h => h) (Or.inl ⟨by rfl, ?_⟩) XY.out ?_ ?_
  rotate_left
  ·intro w' hW
   obtain ⟨c0, c1, c2, fr⟩ := cells3f hW
   go_simp
   with_reducible rfl
  rotate_left
  ·simp only [Act.put, List.setIfInBounds_toArray, List.set_cons_zero, List.set_cons_succ, i64_w, i32_w]
   rfl
  refine take_ (i := 4) (N := some 25) (v := ?_) (a' := ?_) #[true, true, true, false, true, false, false] rfl rfl (take_ofW HT_.out HW_.out (by kernel_rfl)) (fun _ _ _ h => h) (Or.inl ⟨by rfl, ?_⟩) XY.out ?_ ?_
  rotate_left
  ·intro w' hW
   obtain ⟨c0, c1, c2, fr⟩ := cells3f hW
   go_simp
   with_reducible rfl
  rotate_left
  ·simp only [Act.put, List.setIfInBounds_toArray, List.set_cons_zero, List.set_cons_succ, i64_w, i32_w]
   rfl
  refine one_ (i := 3) (N := some 24) #[true, true, true, true, true, false, false] rfl rfl (one_of HT_.out (by kernel_rfl)) (by decide) (fun K hK => ?_)
  refine goes_ Tryz.func51 (by kernel_rfl) rfl #[.int .i64 s0, .string g2] (by rfl) rfl rfl (by (try simp only [List.map_toArray, List.map_cons, List.map_nil]); first | done | rfl) ?_
  refine (manifest_Of.calls s0 g2 _ _ _ _ HOF.out).mono ?_
  rintro e wz ⟨rfl, bz⟩
  refine ⟨_, rfl, ?_⟩
  have RZ := Aside0.mk (RY.out.below bz)
  have XZ := Aside0.mk (blk_below XY.out bz)
  clear bz
  refine hK.out _ _ XZ.out (fun _ => ?_)
  clear hK K
  refine norm_ (a' := ?_) ?_ ?_
  rotate_left
  ·show Act.put _ (some 24) _ = _
   simp only [Act.put, List.setIfInBounds_toArray, List.set_cons_zero, List.set_cons_succ, i64_w, i32_w]
   rfl
  refine pure_ (i := 5) (N := some 26) (v := ?_) (a' := ?_) #[true, true, true, true, true, true, false] rfl rfl (any_of HT_.out (by kernel_rfl)) (fun _ _ _ h => h) (Or.inl ⟨by rfl, ?_⟩) ?_ ?_
  rotate_left
  ·intro w'
   go_simp
   with_reducible rfl
  rotate_left
  ·simp only [Act.put, List.setIfInBounds_toArray, List.set_cons_zero, List.set_cons_succ, i64_w, i32_w]
   rfl
  refine pure_ (i := 6) (N := some 20) (v := ?_) (a' := ?_) #[true, true, true, true, true, true, true] rfl rfl (any_of HT_.out (by kernel_rfl)) (fun _ _ _ h => h) (Or.inl ⟨by rfl, ?_⟩) ?_ ?_
  rotate_left
  ·intro w'
   go_simp
   with_reducible rfl
  rotate_left
  ·simp only [Act.put, List.setIfInBounds_toArray, List.set_cons_zero, List.set_cons_succ, i64_w, i32_w]
   rfl
  refine done_ (done_of HT_.out (by kernel_rfl)) ?_
  cases bb with
  | true =>
   rw [if_neg (by simp)] at e1
   go_wp2_with fail
   go_ret2
   rw [← e1.out]
   exact ⟨rfl, _, RZ.out.back B1.out⟩
  | false =>
   rw [if_pos rfl] at e1
   go_wp2_with fail
   go_ret2
   rw [← e1.out]
   exact ⟨rfl, _, RZ.out.back B1.out⟩
 ·rw [if_pos he] at e1
  have heq : (g3 == 0) = false := beq_eq_false_iff_ne.2 he
  go_wp2_with fail
  go_ret2
  rw [← e1.out]
  exact ⟨rfl, _, R3.out.back B1.out⟩
end Go.Proofs.YtlnbekaldemebaaGreatDoor.Thw
/-! ## Layer 13: Get again: the set does not grow (printed by gen13b.py out of XEv07). -/
namespace Go.Proofs.YtlnbekaldemebaaGreatDoor.Thw
open Go Go.RowKit Go.Proofs.YtlnbekaldemebaaGreatDoorW.PrintWords Go.Proofs.YtlnbekaldemebaaGreatDoorW.PrintLast Go.Proofs.YtlnbekaldemebaaGreatDoorW.PrintMore
set_option linter.unusedVariables false
set_option linter.unusedSimpArgs false
set_option maxHeartbeats 3200000 in
set_option maxRecDepth 100000 in
theorem remote_Get.still (w : World) (A : Nat → Prop) (r : Nat) (st : Rem) (h : RemAt w A r st) (name : ByteArray) (hn : name.size ≤ 140737488351232) :
  Calls Tryz.prog 46 #[.pointer (some ⟨r, 0, none⟩), .string name] w fun e w' => e = .returned (.tuple #[.string (st.get name).2.1, .int .i64 (st.get name).2.2]) ∧ RemAt w' A r (st.get name).1 ∧ Frm A w w' := by
 have H0 := Aside0.mk h.bound
 have HN := Aside0.mk hn
 clear h hn
 go_enter Tryz.func46, Tryz.ntmps46
 go_wp2_with fail
 refine rebase (fun W => RemAt W (fun k => A k ∧ k < w.heap.size) r st ∧ Frm (fun k => A k ∧ k < w.heap.size) w W ∧ W.heap[w.heap.size]? = some (.cells #[.pointer (some ⟨r, 0, none⟩)] 37) ∧ W.heap[w.heap.size + 1]? = some (.cells #[.string name] 9) ∧ W.heap[w.heap.size + 1 + 1]? = some (.cells #[.string ⟨#[]⟩] 9))
  ⟨((H0.out.alloc _).alloc _).alloc _, (((Frm.refl _ _).alloc _).alloc _).alloc _, blk_alloc (blk_alloc (blk_new _ _) _) _, by simpa using blk_alloc (blk_new (w.alloc (.cells #[.pointer (some ⟨r, 0, none⟩)] 37)) _) _, by simpa using blk_new ((w.alloc (.cells #[.pointer (some ⟨r, 0, none⟩)] 37)).alloc (.cells #[.string name] 9)) _⟩ ?_
 rintro w1 ⟨h1, f1, p1, p2, p3⟩
 have n2 : ¬ (A (w.heap.size + 1 + 1) ∧ w.heap.size + 1 + 1 < w.heap.size) := fun x => by omega
 have n1 : ¬ (A (w.heap.size + 1) ∧ w.heap.size + 1 < w.heap.size) := fun x => by omega
 have n0 : ¬ (A w.heap.size ∧ w.heap.size < w.heap.size) := fun x => by omega
 have HC := Aside0.mk (remote_call.calls w1 (fun k => A k ∧ k < w.heap.size) r st h1 77 _ Tryz.func77 (by kernel_rfl) (by kernel_rfl) #[] #[.pointer (some ⟨w.heap.size, 0, none⟩), .pointer (some ⟨w.heap.size + 1, 0, none⟩), .pointer (some ⟨w.heap.size + 1 + 1, 0, none⟩)]
  (fun W w' x => x = ifAny (look st.m name) 0 5 ∧ RemAt w' (fun k => A k ∧ k < w.heap.size) r st.next ∧ w'.heap[w.heap.size + 1 + 1]? = some (.cells #[.string ((look st.m name).getD ⟨#[]⟩)] 9) ∧ Frm (fun k => k = w.heap.size + 1 + 1) W w')
  (fun W hW hF => (get_do.calls W _ r st.next hW name ⟨#[]⟩ HN.out w.heap.size (w.heap.size + 1) (w.heap.size + 1 + 1) (hF.keeps p1 n0) (hF.keeps p2 n1) (hF.keeps p3 n2) n2).mono fun e w' ⟨he, h1, h2, h3⟩ => ⟨_, he, rfl, h1, h2, h3⟩))
 refine HC.out.mono ?_
 have F1 := Aside0.mk f1
 have P3 := Aside0.mk p3
 clear h1 f1 p1 p2 p3 n0 n1 n2
 rintro e w2 (⟨g1, rfl, g2, g3⟩ | ⟨g1, W, x, y, g2, g3, ⟨gx, g4, g5, g6⟩, gy, rfl⟩)
 ·have A1 := Aside0.mk g1
  have A2 := Aside0.mk g2
  have A3 := Aside0.mk g3
  clear g1 g2 g3
  go_wp2_with fail
  go_ret2
  have e1 : st.get name = (st.next, ⟨#[]⟩, 9) := by simp [Rem.get, A1.out]
  rw [e1]
  exact ⟨rfl, A2.out.mono fun k _ hk => hk.1, (F1.out.andThen A3.out (fun i hi => Or.inl hi)).mono fun k _ hk => hk.1⟩
 ·have A1 := Aside0.mk g1
  have A4 := Aside0.mk g4
  have A5 := Aside0.mk g5
  have A6 := Aside0.mk ((F1.out.andThen g3 (fun i hi => Or.inl hi)).andThen g6 (fun i hi => Or.inr (by omega)))
  obtain ⟨q0, qr⟩ := cells1 g5
  rw [gx] at gy
  clear g1 g2 g3 g4 g5 g6 gx
  by_cases hf2 : st.fate = 2
  ·rw [if_pos hf2] at gy
   subst gy
   have HF := Aside0.mk hf2
   clear hf2
   go_wp2_with fail
   go_ret2
   have e1 : st.get name = (st.next, ⟨#[]⟩, 9) := by simp [Rem.get, HF.out]
   rw [e1]
   exact ⟨rfl, A4.out.mono fun k _ hk => hk.1, A6.out.mono fun k _ hk => hk.1⟩
  ·rw [if_neg hf2] at gy
   cases hl : look st.m name with
   | none =>
    rw [hl] at gy
    obtain rfl : y = 5 := gy
    have e1 := Aside0.mk (show st.get name = (st.next, ⟨#[]⟩, 5) by simp [Rem.get, A1.out, hf2, hl])
    clear hl hf2
    go_wp2_with fail
    go_ret2
    rw [e1.out]
    exact ⟨rfl, A4.out.mono fun k _ hk => hk.1, A6.out.mono fun k _ hk => hk.1⟩
   | some v =>
    rw [hl] at gy
    obtain rfl : y = 0 := gy
    have e1 := Aside0.mk (show st.get name = (st.next, v, 0) by simp [Rem.get, A1.out, hf2, hl])
    rw [hl] at q0
    replace q0 : w2.cell? ⟨w.heap.size + 1 + 1, 0, none⟩ = some (.string v) := q0
    clear hl hf2
    go_wp2_with fail
    go_ret2
    rw [e1.out]
    exact ⟨rfl, A4.out.mono fun k _ hk => hk.1, A6.out.mono fun k _ hk => hk.1⟩
end Go.Proofs.YtlnbekaldemebaaGreatDoor.Thw
/-! ## Layer 13 (publish): Latest. -/
namespace Go.Proofs.YtlnbekaldemebaaGreatDoor.Thw
open Go Go.RowKit Go.Proofs.YtlnbekaldemebaaGreatDoorW.PrintWords Go.Proofs.YtlnbekaldemebaaGreatDoorW.PrintLast Go.Proofs.YtlnbekaldemebaaGreatDoorW.PrintMore
set_option linter.unusedVariables false
set_option linter.unusedSimpArgs false
attribute [local go_sem] Oper.semAt_some
theorem C_strAt {w : World} {A : Option Addr} {xs : List ByteArray} (h : Kd.string.C w A xs.length xs) {k : Nat} (hk : k < xs.length) : ∃ ad, A = some ad ∧ w.cell? (ad.add k) = some (.string xs[k]) := by
 obtain ⟨ad, c, e, hl, hK, hc⟩ := ReadsRow.get_ h (⟨#[]⟩ : ByteArray) (k : Int) (by omega) (by omega)
 have hK' : c = [Value.string (xs.getD k ⟨#[]⟩)] := hK
 subst hK'
 have := hc 0 _ rfl
 refine ⟨ad, e, ?_⟩
 simpa [Kd.string, Kd.scalar, List.getD_eq_getElem?_getD, List.getElem?_eq_getElem hk] using this
/-- What a round keeps: all cells outside of T. -/
def Kt (T : Nat → Prop) (A B : World) : Prop := A.heap.size ≤ B.heap.size ∧ ∀ k o, A.heap[k]? = some o → o.isCells = true → ¬ T k → B.heap[k]? = some o
theorem Kt.trans {T : Nat → Prop} {A B C : World} (h : Kt T A B) (k : Kt T B C) : Kt T A C := ⟨Nat.le_trans h.1 k.1, fun i o hi ho hn => k.2 i o (h.2 i o hi ho hn) ho hn⟩
theorem Kt.of_frm {T : Nat → Prop} {A B : World} (h : Frm T A B) : Kt T A B := ⟨h.size, fun k o hk _ hn => h.keeps hk hn⟩
theorem Kt.putObj {T : Nat → Prop} {W : World} {l : Nat} {o o' : Obj} (hlo : W.heap[l]? = some o) (hc : o.isCells = false) : Kt T W (W.putObj l o') := by
 refine ⟨by have := (grownBy_putObj' W l o').size; exact this, fun k u hk hu _ => ?_⟩
 have hne : k ≠ l := by
  rintro rfl
  rw [hlo] at hk
  cases hk
  rw [hc] at hu
  cases hu
 exact ((grownBy_putObj' W l o').block _ (Array.getElem?_eq_some_iff.1 hk).1 (fun e => hne (by cases e; rfl))).trans hk
theorem R_kt {α : Type} {d : Kd α} {e : Nat} {w w1 : World} {base : Nat} {ok T : Nat → Prop} {v : Value} {xs : List α} (h : d.R e w base ok v xs) (hk : Kt T w w1) (hn : ∀ k, ok k → base ≤ k → ¬ T k) : d.R e w1 base ok v xs :=
 Kd.R_mono (Kd.R_move (Kd.R_bound h) (fun k hk' => by
  obtain ⟨ho, hb, hl, q, hq, cs, hc⟩ := hk'
  rw [hc]
  exact hk.2 _ _ hc rfl (hn k ho hb))) (fun _ h => h.1)
def elB (L : List ByteArray) (k : Nat) : ByteArray := match L[k]? with
 | some s => s
 | none => ⟨#[]⟩
theorem elB_at {L : List ByteArray} {k : Nat} (h : k < L.length) : elB L k = L[k] := by unfold elB; rw [List.getElem?_eq_getElem h]
/-- The numbers from N down to m. -/
def dn (N m : Nat) : List Nat := ((List.range N).drop m).reverse
theorem dn_top (N : Nat) : dn N N = [] := by unfold dn; rw [List.drop_of_length_le (by simp)]; rfl
theorem dn_succ {N m : Nat} (h : m < N) : dn N m = dn N (m + 1) ++ [m] := by
 unfold dn
 rw [List.drop_eq_getElem_cons (by simpa using h), List.reverse_cons, List.getElem_range]
theorem dn_length (N m : Nat) : (dn N m).length = N - m := by unfold dn; simp
theorem dn_map (L : List ByteArray) : (dn L.length 0).map (elB L) = L.reverse := by
 unfold dn
 rw [List.drop_zero, List.map_reverse]
 congr 1
 apply List.ext_getElem
 ·simp
 ·intro i h1 h2
  simp only [List.getElem_map, List.getElem_range]
  exact elB_at h2
theorem dn_split (N : Nat) : ∀ m, m ≤ N → ∃ post, dn N 0 = dn N m ++ post := by
 intro m
 induction m with
 | zero => exact fun _ => ⟨[], by simp⟩
 | succ m ih =>
  intro h
  obtain ⟨post, hp⟩ := ih (by omega)
  exact ⟨m :: post, by rw [hp, dn_succ (by omega)]; simp⟩
set_option maxRecDepth 100000 in
set_option maxHeartbeats 3200000 in
theorem backward1_in (F : Fence) (n : Nat) (h7 : F.fn 81) (hro : F.round = none) (hn : 1 ≤ n) (T : Nat → Prop) (l Bs c : Nat) (A : Option Addr) (L : List ByteArray) (hL : L.length ≤ 1000000) (base : Nat) (ok : Nat → Prop) (hok : ∀ k, ok k → base ≤ k → ¬ T k) (hT : ¬ T Bs) (J Jx : List Nat → World → Prop)
  (hY : ∀ pre x W, J pre W → pre.length < L.length → YieldAt F (n - 1) Tryz.prog l #[.int .i64 (x : Nat), .string (elB L x)] W fun e W' =>
   (e = .returned (.bool true) ∧ J (pre ++ [x]) W' ∧ Kt T W W') ∨ (e = .returned (.bool false) ∧ Jx (pre ++ [x]) W'))
  (W : World) (hBs : W.heap[Bs]? = some (.cells #[.slice A L.length c] 22)) (hR : Kd.string.R 9 W base ok (.slice A L.length c) L) (h0 : J [] W) (hJ : AbidesFrom W.heap.size J) :
  CallsIn F n Tryz.prog 81 #[.func (.yield l) #[] #[], .pointer (some ⟨Bs, 0, none⟩)] W fun e W' => (∃ v, e = .returned v) ∧
   ((∃ ys, ys = dn L.length 0 ∧ J ys W') ∨ (∃ pre, (∃ post, dn L.length 0 = pre ++ post) ∧ Jx pre W')) := by
 obtain ⟨b0, br⟩ := cells1 hBs
 refine callsIn_of_wp Tryz.func81 rfl h7 ?_ hro
 simp only [Tryz.ntmps81, List.size_toArray, List.length_cons, List.length_nil, Nat.reduceAdd, Nat.reduceSub, Array.replicate_succ, Array.replicate_zero, List.push_toArray, List.append_toArray, List.nil_append, List.cons_append]
 gi_wp2
 clear b0 br
 gi_loopw [3] (fun i wr => ∃ m : Nat, m ≤ L.length ∧ i = .int .i64 ((m : Int) - 1) ∧ J (dn L.length m) wr ∧ Aside0 (wr.heap[Bs]? = some (.cells #[.slice A L.length c] 22)) ∧ Aside0 (Kd.string.R 9 wr base ok (.slice A L.length c) L))
  (fun i _ => (intOf i + 1).toNat)
 case atStart => exact ⟨L.length, Nat.le_refl _, rfl, by rw [dn_top]; exact h0, ⟨hBs⟩, ⟨hR⟩⟩
 case round =>
  obtain ⟨m, hm, hi, hJs, HB, HR⟩ := hrel
  rcases m with _ | k
  ·obtain rfl := hi
   gi_wp2
   go_end0
   exact ⟨⟨_, rfl⟩, .inl ⟨_, rfl, hJs⟩⟩
  ·rw [show ((k + 1 : Nat) : Int) - 1 = (k : Int) by omega] at hi
   obtain rfl := hi
   obtain ⟨ad, e, q0⟩ := C_strAt (Kd.R_reads' HR.out).2.2 (show k < L.length by omega)
   cases e
   obtain ⟨fn, tmps, assign, body, hy, hRo⟩ := hY _ k wr hJs (by rw [dn_length]; omega)
   rw [elB_at (show k < L.length by omega)] at hy
   generalize L[k] = s at q0 hy
   obtain ⟨b0, br⟩ := cells1 HB.out
   have i0 : 0 ≤ (k : Int) := by omega
   have i1 : (k : Int) < (L.length : Int) := by omega
   gi_wp2
   refine hRo.mono ?_
   rintro e W3 (⟨rfl, hJ3, hk3⟩ | ⟨rfl, hJx3⟩)
   ·have HB3 := Aside0.mk (hk3.2 _ _ HB.out rfl hT)
    have HR3 := Aside0.mk (R_kt HR.out hk3 hok)
    gi_wp2
    go_roundw
    case rel => exact ⟨k, by omega, by go_num, by rw [dn_succ (by omega)]; exact hJ3, HB3, HR3⟩
    case measure => simp [intOf]
   ·gi_wp2
    refine bodyPost_ret (results_none rfl _ _ _) rfl ?_
    obtain ⟨post, hp⟩ := dn_split L.length k (by omega)
    exact ⟨⟨_, rfl⟩, .inr ⟨_, ⟨post, by rw [hp, dn_succ (by omega)]⟩, hJx3⟩⟩
end Go.Proofs.YtlnbekaldemebaaGreatDoor.Thw
/-! ## Layer 13 (publish): Latest, walked. -/
namespace Go.Proofs.YtlnbekaldemebaaGreatDoor.Thw
open Go Go.RowKit Go.Proofs.YtlnbekaldemebaaGreatDoor.Print Go.Proofs.YtlnbekaldemebaaGreatDoorW.PrintWords Go.Proofs.YtlnbekaldemebaaGreatDoorW.PrintLast Go.Proofs.YtlnbekaldemebaaGreatDoorW.PrintMore
set_option linter.unusedVariables false
set_option linter.unusedSimpArgs false
attribute [local go_sem] Oper.semAt_some
/-! ### what it comes to -/
open Classical in
noncomputable def verF (s : ByteArray) : Option Nat := if h : ∃ n, IsV (L s) n then some h.choose else none
theorem verF_some {s : ByteArray} {n : Nat} (h : IsV (L s) n) : verF s = some n := by
 have h' : ∃ n, IsV (L s) n := ⟨n, h⟩
 unfold verF
 rw [dif_pos h', IsV.uniq h'.choose_spec h]
theorem verF_none {s : ByteArray} (h : ∀ n, ¬ IsV (L s) n) : verF s = none := by unfold verF; rw [dif_neg (fun ⟨n, hn⟩ => h n hn)]
theorem verF_of {s : ByteArray} {r : Int × Bool} (h : verO s r) : (∃ n, verF s = some n ∧ r = ((n : Int), true)) ∨ (verF s = none ∧ r = (0, false)) := by
 rcases h with ⟨n, hn, e⟩ | ⟨hn, e⟩
 ·exact Or.inl ⟨n, verF_some hn, e⟩
 ·exact Or.inr ⟨verF_none hn, e⟩
noncomputable def latStep (st : Rem) (nm : ByteArray) : Rem × Option ((Int × List SgI) × Int) :=
 match verF nm with
 | none => (st, none)
 | some v =>
  if (st.get nm).2.2 = 9 then ((st.get nm).1, some ((0, []), 9))
  else if (st.get nm).2.2 = 0 then
   match (readR (L (st.get nm).2.1)).1 with
   | some (u, l) => if u = v then ((st.get nm).1, some (((v : Int), l.map mkSg), 0)) else ((st.get nm).1, none)
   | none => ((st.get nm).1, none)
  else ((st.get nm).1, none)
noncomputable def latRun : Rem → List ByteArray → Rem × Option ((Int × List SgI) × Int)
 | st, [] => (st, none)
 | st, nm :: l => match (latStep st nm).2 with
  | none => latRun (latStep st nm).1 l
  | some r => ((latStep st nm).1, some r)
theorem latRun_append : ∀ (l l' : List ByteArray) (st : Rem), latRun st (l ++ l') = match (latRun st l).2 with
  | none => latRun (latRun st l).1 l'
  | some r => ((latRun st l).1, some r)
 | [], l', st => rfl
 | nm :: l, l', st => by
  rw [List.cons_append, latRun, latRun]
  cases h : (latStep st nm).2 with
  | none => exact latRun_append l l' _
  | some r => rfl
theorem latRun_snoc {st s : Rem} {l : List ByteArray} (h : latRun st l = (s, none)) (nm : ByteArray) : latRun st (l ++ [nm]) = latStep s nm := by
 rw [latRun_append, h]
 show latRun s [nm] = _
 rw [latRun]
 cases hh : (latStep s nm).2 with
 | none => rw [latRun]; exact Prod.ext rfl hh.symm
 | some r => exact Prod.ext rfl hh.symm
noncomputable def latEnd (p : Rem × Option ((Int × List SgI) × Int)) : Rem × (Int × List SgI) × Int := match p.2 with
 | none => (p.1, (0, []), 5)
 | some r => (p.1, r.1, r.2)
noncomputable def pubLatest (st : Rem) : Rem × (Int × List SgI) × Int := if st.list.2 ≠ 0 then (st.next, (0, []), st.list.2) else latEnd (latRun st.next st.list.1.reverse)
theorem get_m (st : Rem) (k : ByteArray) : (st.get k).1.m = st.m := by unfold Rem.get; split; rfl; split <;> rfl
/-! ### the remote across the steps -/
theorem frm_grown {B : Nat} {W W' : World} {row : Option Nat} (hg : W.grownBy W' row) (hr : ∀ r, row = some r → B ≤ r) : Frm (fun k => B ≤ k) W W' :=
 ⟨hg.os, hg.tape, hg.output, hg.size, fun i hi hn => hg.block i hi (fun e => hn (hr i e.symm))⟩
theorem RSt.grown {w W W' : World} {T T' : Nat → Prop} {r : Nat} {x : Rem} (h : RSt w T r x W T') {B : Nat} (hT : ∀ k, T' k → k < B) (hB : w.heap.size ≤ B) (f : Frm (fun k => B ≤ k) W W') : RSt w T r x W' T' :=
 ⟨h.at_.frm f (fun k hk hn => by have := hT k hk; omega), fun k hk => ⟨(h.sub k hk).1, Nat.lt_of_lt_of_le (h.sub k hk).2 f.size⟩, h.frm.andThen f (fun i hi => Or.inr (Nat.le_trans hB hi))⟩
theorem RSt.still {w W W' : World} {T T' : Nat → Prop} {r : Nat} {x y : Rem} (h : RSt w T r x W T') (h' : RemAt W' T' r y) (f : Frm T' W W') : RSt w T r y W' T' :=
 ⟨h', fun k hk => ⟨(h.sub k hk).1, Nat.lt_of_lt_of_le (h.sub k hk).2 f.size⟩, h.frm.andThen f (fun i hi => (h.sub i hi).1)⟩
theorem keeps_frm {T : Nat → Prop} {B : Nat} {W W' : World} (f : Frm T W W') (hT : ∀ k, T k → k < B) : KeepsFrom B W W' := ⟨f.size, fun k o hk ho _ => f.keeps ho (fun ht => by have := hT k ht; omega)⟩
theorem backward_stops (F : Fence) (n : Nat) (h7 : F.fn 81) (hro : F.round = none) (hn : 1 ≤ n) (T : Nat → Prop) (Bs c : Nat) (A : Option Addr) (L : List ByteArray) (hL : L.length ≤ 1000000) (base : Nat) (ok : Nat → Prop) (hok : ∀ k, ok k → base ≤ k → ¬ T k) (hT : ¬ T Bs) (w : World)
  (hBs : w.heap[Bs]? = some (.cells #[.slice A L.length c] 22)) (hR : Kd.string.R 9 w base ok (.slice A L.length c) L) :
  SeqStopsK F n Tryz.prog 81 #[.pointer (some ⟨Bs, 0, none⟩)] (fun k : Nat => #[.int .i64 (k : Nat), .string (elB L k)]) (Kt T) (fun ys => ys = dn L.length 0) (fun pre => ∃ post, dn L.length 0 = pre ++ post) L.length w := fun l J Jx W hW hJ _ hY h0 =>
 backward1_in F n h7 hro hn T l Bs c A L hL base ok hok hT J Jx hY W (blk_below hBs hW) (Kd.R_below hR hW) h0 hJ
set_option maxHeartbeats 1600000 in
theorem backward_calls (A : Option Addr) (n c : Nat) (w : World) :
  Calls Tryz.prog 48 #[.slice A n c] w fun e w' => e = .returned (.func (.func 81) #[] #[.pointer (some ⟨w.heap.size, 0, none⟩)]) ∧ w' = w.alloc (.cells #[.slice A n c] 22) := by
 have hmf : ∀ (fn : Fn) (first cap : Array Value) (w : World), (Instr.makeFunc fn first cap).run Tryz.prog w = .ok (.func fn first cap) w := fun _ _ _ _ => rfl
 go_enter Tryz.func48, Tryz.ntmps48
 go_wp2_with fail
 go_ret
 exact ⟨rfl, rfl⟩
theorem wpIn_scope_w {n : Nat} {P : Program} {c : Code} {Q : Exit → Act → World → Prop} {a : Act} {w : World} (h : c.wpIn Fence.wide n P (Exit.noGoto Q) a w) : (Code.scope c).wpIn Fence.wide n P Q a w := wpIn_wide.2 (wp_scope_straight (wpIn_wide.1 h))
/-- What Latest hands back. -/
def ManPost (w : World) (T : Nat → Prop) (r : Nat) (X : Rem × (Int × List SgI) × Int) (e : Ending) (w' : World) : Prop :=
 ∃ A c T', e = .returned (.tuple #[.agg #[.int .i64 X.2.1.1, .slice A X.2.1.2.length c], .int .i64 X.2.2]) ∧ Kd.R k45 45 w' w.heap.size (fun k => ¬ T' k) (.slice A X.2.1.2.length c) X.2.1.2 ∧ RSt w T r X.1 w' T'
theorem lat_results {W : World} {tmps : Array Value} {m e : Nat} {a b c : Value} (hm : W.heap[m]? = some (.cells #[a, b] 25)) (he : W.heap[e]? = some (.cells #[c] 40)) (h2 : tmps.getD 2 undef = .pointer (some ⟨m, 0, none⟩)) (h3 : tmps.getD 3 undef = .pointer (some ⟨e, 0, none⟩)) :
  (results Tryz.f15 tmps).run Tryz.prog W = .ok (.tuple #[.agg #[a, b], c]) W := by
 have h2' : tmps[2]?.getD undef = .pointer (some ⟨m, 0, none⟩) := by simpa using h2
 have h3' : tmps[3]?.getD undef = .pointer (some ⟨e, 0, none⟩) := by simpa using h3
 simp [results, Tryz.results15, h2', h3', asAddr, run_loadInt Tryz.underlying40 (cells1' he).1, run_loadVar_row W m 25 25 #[a, b] (0, 0) _ hm Tryz.underlying25 rfl (by kernel_rfl)]
theorem readR_bad {b : Bs} {er : Int} (h : readR b = (none, er)) : er ≠ 0 := by
 unfold readR at h
 split at h
 ·split at h
  ·cases h
  ·injection h with h1 h2
   omega
 ·injection h with h1 h2
  omega
theorem newTwo (V : World) (o : Obj) : Below V.heap.size V (V.alloc o) := (Below.refl _ V).alloc (Nat.le_refl _) o
/-- The three own boxes. -/
structure LatB (T : Nat → Prop) (b1 b2 b3 r : Nat) (V : World) : Prop where
 p1 : V.heap[b1]? = some (.cells #[.pointer (some ⟨r, 0, none⟩)] 37)
 p2 : V.heap[b2]? = some (.cells #[.int .i64 0, .slice none 0 0] 25)
 p3 : V.heap[b3]? = some (.cells #[.int .i64 0] 40)
theorem LatB.at_ {T S : Nat → Prop} {b1 b2 b3 r : Nat} {V V' : World} (h : LatB T b1 b2 b3 r V) (f : Frm S V V') (n1 : ¬ S b1) (n2 : ¬ S b2) (n3 : ¬ S b3) : LatB T b1 b2 b3 r V' := ⟨f.keeps h.p1 n1, f.keeps h.p2 n2, f.keeps h.p3 n3⟩
theorem LatB.grown {T : Nat → Prop} {b1 b2 b3 r : Nat} {V V' : World} {row : Option Nat} (h : LatB T b1 b2 b3 r V) (hg : V.grownBy V' row) (hr : ∀ r, row = some r → ∃ o : Obj, V.heap[r]? = some o ∧ o.isCells = false) : LatB T b1 b2 b3 r V' :=
 ⟨(grownBy_keeps_cells hg hr h.p1 rfl).trans h.p1, (grownBy_keeps_cells hg hr h.p2 rfl).trans h.p2, (grownBy_keeps_cells hg hr h.p3 rfl).trans h.p3⟩
/-- What lies in the results' boxes. -/
def LatX (w : World) (T : Nat → Prop) (b2 b3 r : Nat) (X : Rem × (Int × List SgI) × Int) (V : World) : Prop :=
 ∃ A c, V.heap[b2]? = some (.cells #[.int .i64 X.2.1.1, .slice A X.2.1.2.length c] 25) ∧ V.heap[b3]? = some (.cells #[.int .i64 X.2.2] 40) ∧ Kd.R k45 45 V w.heap.size (fun _ => True) (.slice A X.2.1.2.length c) X.2.1.2 ∧ RSt w T r X.1 V T
theorem R_cellsGrown {α : Type} {d : Kd α} {e : Nat} {w w1 : World} {base : Nat} {ok : Nat → Prop} {v : Value} {xs : List α} (h : d.R e w base ok v xs) {row : Option Nat} (hg : w.grownBy w1 row) (hr : ∀ r, row = some r → ∃ o : Obj, w.heap[r]? = some o ∧ o.isCells = false) : d.R e w1 base ok v xs :=
 Kd.R_mono (Kd.R_move (Kd.R_bound h) (fun k hk' => by
  obtain ⟨ho, hb, hl, q, hq, cs, hc⟩ := hk'
  exact grownBy_keeps_cells hg hr hc rfl)) (fun _ h => h.1)
theorem LatX.grown {w V V' : World} {T : Nat → Prop} {b2 b3 r : Nat} {X : Rem × (Int × List SgI) × Int} (h : LatX w T b2 b3 r X V) {B : Nat} (hT : ∀ k, T k → k < B) (hB : w.heap.size ≤ B) {row : Option Nat} (hg : V.grownBy V' row) (hr : ∀ r, row = some r → B ≤ r ∧ ∃ o : Obj, V.heap[r]? = some o ∧ o.isCells = false) : LatX w T b2 b3 r X V' := by
 obtain ⟨A, c, h2, h3, hR, hS⟩ := h
 exact ⟨A, c, (grownBy_keeps_cells hg (fun r e => (hr r e).2) h2 rfl).trans h2, (grownBy_keeps_cells hg (fun r e => (hr r e).2) h3 rfl).trans h3, R_cellsGrown hR hg (fun r e => (hr r e).2), hS.grown hT hB (frm_grown hg (fun r e => (hr r e).1))⟩
theorem LatX.post {w V : World} {T : Nat → Prop} {b2 b3 r : Nat} {X : Rem × (Int × List SgI) × Int} (h : LatX w T b2 b3 r X V) {tmps : Array Value} (h2 : tmps.getD 2 undef = .pointer (some ⟨b2, 0, none⟩)) (h3 : tmps.getD 3 undef = .pointer (some ⟨b3, 0, none⟩)) (hT : ∀ k, T k → k < w.heap.size) :
  ∃ v, (results Tryz.f15 tmps).run Tryz.prog V = .ok v V ∧ ManPost w T r X (.returned v) V := by
 obtain ⟨A, c, e2, e3, hR, hS⟩ := h
 exact ⟨_, lat_results e2 e3 h2 h3, A, c, T, rfl, Kd.R_mono (Kd.R_bound hR) (fun k hk ht => by have := hT k ht; have := hk.2.1; omega), hS⟩
/-- Zeros into the results' boxes. -/
theorem LatX.zero {w V : World} {T : Nat → Prop} {b1 b2 b3 r : Nat} {x : Rem} (hS : RSt w T r x V T) (hB : LatB T b1 b2 b3 r V) (h2 : w.heap.size ≤ b2) (h3 : w.heap.size ≤ b3) (hne : b2 ≠ b3) (n2 : ¬ T b2) (n3 : ¬ T b3) (e : Int) :
  LatX w T b2 b3 r (x, (0, []), e) (((V.setCell ⟨b2, 0, none⟩ (.int .i64 0)).setCell ⟨b2, 1, none⟩ (.slice none 0 0)).setCell ⟨b3, 0, none⟩ (.int .i64 e)) := by
 have f3 : Frm (fun i => i = b2 ∨ i = b3) V (((V.setCell ⟨b2, 0, none⟩ (.int .i64 0)).setCell ⟨b2, 1, none⟩ (.slice none 0 0)).setCell ⟨b3, 0, none⟩ (.int .i64 e)) := (((Frm.refl _ V).setCell (Or.inl (Or.inl rfl)) _).setCell (Or.inl (Or.inl rfl)) _).setCell (Or.inl (Or.inr rfl)) _
 refine ⟨none, 0, ?_, ?_, Kd.R_nil _ _ _ _ _, ?_⟩
 ·have := hB.p2
  simp [World.setCell, Array.getElem?_modify, this, hne, hne.symm]
 ·have := hB.p3
  simp [World.setCell, Array.getElem?_modify, this, hne, hne.symm]
 ·exact ⟨hS.at_.frm f3 (fun k hk e => by rcases e with rfl | rfl; exact n2 hk; exact n3 hk), fun k hk => ⟨(hS.sub k hk).1, Nat.lt_of_lt_of_le (hS.sub k hk).2 f3.size⟩, hS.frm.andThen f3 (fun i hi => by rcases hi with rfl | rfl; exact Or.inr h2; exact Or.inr h3)⟩
theorem LatX.put {w V : World} {T : Nat → Prop} {b1 b2 b3 r : Nat} {x : Rem} (hS : RSt w T r x V T) (hB : LatB T b1 b2 b3 r V) (h2 : w.heap.size ≤ b2) (h3 : w.heap.size ≤ b3) (hne : b2 ≠ b3) (n2 : ¬ T b2) (n3 : ¬ T b3) (v : Int) (A : Option Addr) (c : Nat) (l : List SgI) (hR : Kd.R k45 45 V w.heap.size (fun k => V.heap.size ≤ k ∨ (k ≠ b2 ∧ k ≠ b3)) (.slice A l.length c) l) :
  LatX w T b2 b3 r (x, (v, l), 0) (((V.setCell ⟨b2, 0, none⟩ (.int .i64 v)).setCell ⟨b2, 1, none⟩ (.slice A l.length c)).setCell ⟨b3, 0, none⟩ (.int .i64 0)) := by
 have f3 : Frm (fun i => i = b2 ∨ i = b3) V (((V.setCell ⟨b2, 0, none⟩ (.int .i64 v)).setCell ⟨b2, 1, none⟩ (.slice A l.length c)).setCell ⟨b3, 0, none⟩ (.int .i64 0)) := (((Frm.refl _ V).setCell (Or.inl (Or.inl rfl)) _).setCell (Or.inl (Or.inl rfl)) _).setCell (Or.inl (Or.inr rfl)) _
 refine ⟨A, c, ?_, ?_, ?_, ?_⟩
 ·have := hB.p2
  simp [World.setCell, Array.getElem?_modify, this, hne, hne.symm]
 ·have := hB.p3
  simp [World.setCell, Array.getElem?_modify, this, hne, hne.symm]
 ·refine Kd.R_mono (Kd.R_step hR (fun k hk hlt => f3.block k hlt (fun hn => ?_))) (fun _ _ => trivial)
  rcases hk with hk | hk
  ·omega
  ·rcases hn with rfl | rfl
   ·exact hk.1 rfl
   ·exact hk.2 rfl
 ·exact ⟨hS.at_.frm f3 (fun k hk e => by rcases e with rfl | rfl; exact n2 hk; exact n3 hk), fun k hk => ⟨(hS.sub k hk).1, Nat.lt_of_lt_of_le (hS.sub k hk).2 f3.size⟩, hS.frm.andThen f3 (fun i hi => by rcases hi with rfl | rfl; exact Or.inr h2; exact Or.inr h3)⟩
set_option maxHeartbeats 6400000 in
set_option maxRecDepth 100000 in
theorem pub_Latest.calls (w : World) (T : Nat → Prop) (r : Nat) (st : Rem) (h : RemAt w T r st) (hT : ∀ k, T k → k < w.heap.size) (hAW : ∀ W, Frm T w W → LaidW W) (hm : st.m.length ≤ 1000000) (hk : ∀ k ∈ names st.m, k.size ≤ 1000000) (hv : ∀ k b, look st.m k = some b → b.size ≤ 1000000) :
  Calls Tryz.prog 15 #[.pointer (some ⟨r, 0, none⟩)] w (ManPost w T r (pubLatest st)) := by
 have H := Aside0.mk h
 have HT := Aside0.mk hT
 have HAW := Aside0.mk hAW
 have HM := Aside0.mk hm
 have HK := Aside0.mk hk
 have HV := Aside0.mk hv
 clear h hT hAW hm hk hv
 obtain ⟨X, hX⟩ : ∃ X, pubLatest st = X := ⟨_, rfl⟩
 rw [hX]
 have HX := Aside0.mk hX
 clear hX
 refine callsIn_wide (n := 9).1 ?_
 refine callsIn_of_wp_marks Tryz.func15 rfl trivial ?_ rfl
 simp only [Tryz.ntmps15, List.size_toArray, List.length_cons, List.length_nil, Nat.reduceAdd, Nat.reduceSub, Array.replicate_succ, Array.replicate_zero, List.push_toArray, List.append_toArray, List.nil_append, List.cons_append]
 gi_wp2_with fail
 refine wpIn_scope_w ?_
 obtain ⟨w1, hw1⟩ : ∃ w1, ((w.alloc (.cells #[.pointer (some ⟨r, 0, none⟩)] 37)).alloc (.cells #[.int .i64 0, .slice none 0 0] 25)).alloc (.cells #[.int .i64 0] 40) = w1 := ⟨_, rfl⟩
 have LB := Aside0.mk (show LatB T w.heap.size (w.heap.size + 1) (w.heap.size + 1 + 1) r w1 by
  rw [← hw1]
  exact ⟨blk_alloc (blk_alloc (blk_new _ _) _) _, by simpa using blk_alloc (blk_new (w.alloc (.cells #[.pointer (some ⟨r, 0, none⟩)] 37)) (.cells #[.int .i64 0, .slice none 0 0] 25)) _, by simpa using blk_new ((w.alloc (.cells #[.pointer (some ⟨r, 0, none⟩)] 37)).alloc (.cells #[.int .i64 0, .slice none 0 0] 25)) (.cells #[.int .i64 0] 40)⟩)
 have R1 := Aside0.mk (show RSt w T r st w1 T by
  rw [← hw1]
  exact ⟨((H.out.alloc _).alloc _).alloc _, fun k hk => ⟨Or.inl hk, by have := HT.out k hk; simp; omega⟩, (((Frm.refl _ _).alloc _).alloc _).alloc _⟩)
 rw [hw1]
 clear hw1 H
 obtain ⟨b1, hb1⟩ : ∃ b, w.heap.size = b := ⟨_, rfl⟩
 obtain ⟨b2, hb2⟩ : ∃ b, b1 + 1 = b := ⟨_, rfl⟩
 obtain ⟨b3, hb3⟩ : ∃ b, b2 + 1 = b := ⟨_, rfl⟩
 rw [hb1, hb2, hb3] at LB ⊢
 have HN := Aside0.mk (show w.heap.size ≤ b1 ∧ w.heap.size ≤ b2 ∧ w.heap.size ≤ b3 ∧ b2 ≠ b3 ∧ ¬ T b1 ∧ ¬ T b2 ∧ ¬ T b3 from ⟨by omega, by omega, by omega, by omega, fun h => by have := HT.out _ h; omega, fun h => by have := HT.out _ h; omega, fun h => by have := HT.out _ h; omega⟩)
 clear hb1 hb2 hb3
 obtain ⟨c0, cr⟩ := cells1 LB.out.p1
 gi_wp2_with fail
 refine ⟨trivial, ?_⟩
 refine (callsIn_wide.2 (remote_List.calls w1 T r st R1.out.at_ (fun k hk => (R1.out.sub k hk).2) HM.out)).mono ?_
 rintro e w2 ⟨v, rfl, hrow, h2, f2⟩
 have R2 := Aside0.mk (R1.out.still h2 f2)
 have LB2 := Aside0.mk (LB.out.at_ f2 HN.out.2.2.2.2.1 HN.out.2.2.2.2.2.1 HN.out.2.2.2.2.2.2)
 have HZ1 := Aside0.mk R1.out.frm.size
 clear h2 f2 R1 c0 cr
 have HNS := Aside0.mk (show st.list.1.length ≤ 1000000 ∧ ∀ k ∈ st.list.1, k.size ≤ 1000000 by
  unfold Rem.list
  split
  ·exact ⟨Nat.zero_le _, fun k hk => by cases hk⟩
  ·exact ⟨by show (names st.m).length ≤ _; rw [(names_perm st.m).length_eq, List.length_map]; exact HM.out, HK.out⟩)
 have e1 := Aside0.mk (show (if st.list.2 ≠ 0 then (st.next, ((0 : Int), ([] : List SgI)), st.list.2) else latEnd (latRun st.next st.list.1.reverse)) = X by rw [← HX.out]; rfl)
 generalize st.list = ls at e1 HNS hrow ⊢
 obtain ⟨ns, le⟩ := ls
 simp only at e1 HNS hrow ⊢
 obtain ⟨A2, cc, rfl, hcc, hC⟩ := Kd.R_reads hrow
 have HROW := Aside0.mk hrow
 clear HX hrow hC hcc
 by_cases he : le = 0
 case neg =>
  rw [if_pos he] at e1
  have heq : (le == 0) = false := beq_eq_false_iff_ne.2 he
  have hne : ¬ b2 = b3 := HN.out.2.2.2.1
  have hne' : ¬ b3 = b2 := fun e => hne e.symm
  obtain ⟨d0, d1, dr⟩ := cells2m LB2.out.p2
  obtain ⟨g0, gr'⟩ := cells1 LB2.out.p3
  gi_wp2_with fail
  rw [Exit.noGoto_ret]
  have hx := LatX.zero R2.out LB2.out HN.out.2.1 HN.out.2.2.1 HN.out.2.2.2.1 HN.out.2.2.2.2.2.1 HN.out.2.2.2.2.2.2 le
  rw [e1.out] at hx
  exact hx.post rfl rfl HT.out
 case pos =>
  subst he
  rw [if_neg (by simp)] at e1
  gi_wp2_with fail
  refine wpIn_label ?_
  gi_wp2_with fail
  refine ⟨trivial, ?_⟩
  refine (callsIn_wide.2 (backward_calls A2 ns.length cc w2)).mono ?_
  rintro e w' ⟨rfl, rfl⟩
  gi_wp2_with fail
  obtain ⟨w3, hw3⟩ : ∃ w3, w2.alloc (.cells #[.slice A2 ns.length cc] 22) = w3 := ⟨_, rfl⟩
  have BX := Aside0.mk (show w3.heap[w2.heap.size]? = some (.cells #[.slice A2 ns.length cc] 22) by rw [← hw3]; exact blk_new _ _)
  have R3 := Aside0.mk (show RSt w T r st.next w3 T by rw [← hw3]; exact R2.out.below (below_alloc (Below.refl _ _) _))
  have LB3 := Aside0.mk (show LatB T b1 b2 b3 r w3 by rw [← hw3]; exact LB2.out.at_ (S := None') ((Frm.refl _ _).alloc _) (fun x => x) (fun x => x) (fun x => x))
  have RW3 := Aside0.mk (show Kd.string.R 9 w3 w1.heap.size (fun _ => True) (.slice A2 ns.length cc) ns by rw [← hw3]; exact Kd.R_alloc HROW.out _)
  have HS3 := Aside0.mk (show w.heap.size ≤ w2.heap.size ∧ w2.heap.size < w3.heap.size from ⟨R2.out.frm.size, lt_of_block BX.out⟩)
  rw [hw3]
  clear hw3 R2 LB2 HROW LB
  obtain ⟨bs, hbs⟩ : ∃ bs, w2.heap.size = bs := ⟨_, rfl⟩
  rw [hbs] at BX HS3 ⊢
  clear hbs
  have HTB := Aside0.mk (show ∀ k, T k → k < w3.heap.size from fun k hk => (R3.out.sub k hk).2)
  have HTS := Aside0.mk (show ¬ T bs from fun hk => by have := HT.out _ hk; have := HS3.out.1; omega)
  refine wpIn_rangeFunc_ownG (α := Nat) rfl (by omega) (gf := 81) (lb := #[.pointer (some ⟨bs, 0, none⟩)]) rfl trivial (enters_of Tryz.func81 (by kernel_rfl) rfl)
   (backward_stops Fence.wide (9 - 1) trivial rfl (by omega) T bs cc A2 ns HNS.out.1 w1.heap.size (fun _ => True) (fun k _ hk ht => by have := HT.out k ht; have := HZ1.out; omega) HTS.out w3 BX.out RW3.out)
   (fun h k => h.trans k) (fun W l o o' _ hlo hc _ => Kt.putObj hlo hc) (Below.refl _ _) (fun _ => rfl)
   (fun pre V => ∃ s, latRun st.next (pre.map (elB ns)) = (s, none) ∧ s.m = st.m ∧ RSt w T r s V T ∧ LatB T b1 b2 b3 r V)
   (fun c pre V => c = .ret ∧ ∃ p, latRun st.next (pre.map (elB ns)) = (p.1, some p.2) ∧ LatX w T b2 b3 r p V)
   (fun s A B row hs hg hr => by
    obtain ⟨x, hx1, hx2, hx3, hx4⟩ := hs
    exact ⟨x, hx1, hx2, hx3.grown HTB.out (by have := HS3.out; omega) (frm_grown hg (fun r e => (hr r e).1)), hx4.grown hg (fun r e => (hr r e).2)⟩)
   (fun c s A B row hs hg hr => by
    obtain ⟨hc, p, hp1, hp2⟩ := hs
    exact ⟨hc, p, hp1, hp2.grown HTB.out (by have := HS3.out; omega) hg hr⟩)
   ⟨_, rfl, rfl, R3.out, LB3.out⟩
   (fun x => { tmps := #[.pointer (some ⟨r, 0, none⟩), .pointer (some ⟨b1, 0, none⟩), .pointer (some ⟨b2, 0, none⟩), .pointer (some ⟨b3, 0, none⟩), .slice A2 ns.length cc, .int .i64 0, undef, .string (elB ns x), undef, undef, undef, undef, undef, undef, .tuple #[.slice A2 ns.length cc, .int .i64 0], .pointer (some ⟨r, 0, none⟩), .tuple #[.slice A2 ns.length cc, .int .i64 0], .slice A2 ns.length cc, .int .i64 0, .int .i64 0, .bool false, undef, undef, .slice A2 ns.length cc, .func (.func 81) #[] #[.pointer (some ⟨bs, 0, none⟩)], .int .i64 (x : Nat), .string (elB ns x), undef, undef, undef, undef, undef, undef, undef, undef, undef, undef, undef, undef, undef, undef, undef, undef, undef, undef, undef, undef, undef, undef, undef, undef, undef, undef, undef, undef, undef, undef, undef, undef, undef, undef, undef, undef], defers := [] }) ?assign ?body ?done ?stop
  case assign =>
   intro l x W K hK
   gi_wp2
   exact hK
  case body =>
   rintro l pre x V ⟨s, hs1, hs2, hs3, hs4⟩ hlen
   obtain ⟨nm, hnm⟩ : ∃ nm, elB ns x = nm := ⟨_, rfl⟩
   have HNM := Aside0.mk (show nm.size ≤ 1000000 by
    rw [← hnm]
    unfold elB
    split
    ·rename_i z hz
     exact HNS.out.2 _ (List.mem_of_getElem? hz)
    ·exact Nat.zero_le _)
   have RUN := Aside0.mk (show latRun st.next ((pre ++ [x]).map (elB ns)) = latStep s nm by
    rw [List.map_append]
    show latRun st.next (_ ++ [elB ns x]) = _
    rw [hnm]
    exact latRun_snoc hs1 nm)
   have S1 := Aside0.mk hs3
   have LV := Aside0.mk hs4
   have HSM := Aside0.mk hs2
   have HVL := Aside0.mk (show (s.get nm).1.m = st.m ∧ (s.get nm).2.1.size ≤ 1000000 from ⟨by rw [get_m]; exact hs2, by
    unfold Rem.get
    split
    ·exact Nat.zero_le _
    ·cases hl : look s.m nm with
     | none => exact Nat.zero_le _
     | some b => exact HV.out nm b (by rw [← hs2]; exact hl)⟩)
   rw [hnm]
   clear hnm hs1 hs2 hs3 hs4
   gi_wp2_with fail
   refine ⟨trivial, ?_⟩
   refine (CallsIn.inRound l (callsIn_wide.2 (man_Version.calls nm HNM.out _ (HAW.out _ S1.out.frm)))).mono ?_
   rintro e V1 ⟨⟨rv, hrv, rfl⟩, bv⟩
   have S2 := Aside0.mk (S1.out.below bv)
   have F2 := Aside0.mk (Frm.of_new (S := T) bv)
   have LV2 := Aside0.mk (LV.out.at_ (S := None') (Frm.of_new bv) (fun x => x) (fun x => x) (fun x => x))
   clear S1 LV bv
   rcases verF_of hrv with ⟨v, hv, rfl⟩ | ⟨hv, rfl⟩
   case inr =>
    have HV' := Aside0.mk hv
    clear hrv hv
    gi_wp2_with fail
    exact ⟨keeps_frm F2.out HTB.out, Kt.of_frm F2.out, s, by rw [RUN.out]; unfold latStep; rw [HV'.out], HSM.out, S2.out, LV2.out⟩
   case inl =>
    have RUN2 := Aside0.mk (show latRun st.next ((pre ++ [x]).map (elB ns)) = (if (s.get nm).2.2 = 9 then ((s.get nm).1, some (((0 : Int), ([] : List SgI)), (9 : Int)))
  else if (s.get nm).2.2 = 0 then
   match (readR (L (s.get nm).2.1)).1 with
   | some (u, l) => if u = v then ((s.get nm).1, some (((v : Int), l.map mkSg), 0)) else ((s.get nm).1, none)
   | none => ((s.get nm).1, none)
  else ((s.get nm).1, none)) by rw [RUN.out]; unfold latStep; rw [hv])
    clear hrv hv RUN
    obtain ⟨c0, cr⟩ := cells1 LV2.out.p1
    gi_wp2_with fail
    refine ⟨trivial, ?_⟩
    refine (CallsIn.inRound l (callsIn_wide.2 (remote_Get.still V1 T r s S2.out.at_ nm (by have := HNM.out; omega)))).mono ?_
    rintro e V2 ⟨rfl, h2, f2⟩
    have S3 := Aside0.mk (S2.out.still h2 f2)
    have F3 := Aside0.mk (F2.out.andThen f2 (fun i hi => Or.inl hi))
    have LV3 := Aside0.mk (LV2.out.at_ f2 HN.out.2.2.2.2.1 HN.out.2.2.2.2.2.1 HN.out.2.2.2.2.2.2)
    clear h2 f2 S2 F2 LV2 c0 cr
    generalize s.get nm = gt at RUN2 HVL S3 ⊢
    obtain ⟨g1, g2, g3⟩ := gt
    simp only at RUN2 HVL S3 ⊢
    have hne : ¬ b2 = b3 := HN.out.2.2.2.1
    have hne' : ¬ b3 = b2 := fun e => hne e.symm
    by_cases h9 : g3 = 9
    case pos =>
     subst h9
     rw [if_pos rfl] at RUN2
     obtain ⟨d0, d1, dr⟩ := cells2m LV3.out.p2
     obtain ⟨q0, qr⟩ := cells1 LV3.out.p3
     gi_wp2_with fail
     exact ⟨(keeps_frm F3.out HTB.out).trans ((((KeepsOthers.setCell V2 ⟨b2, 0, none⟩ _).trans (KeepsOthers.setCell _ ⟨b2, 1, none⟩ _)).trans (KeepsOthers.setCell _ ⟨b3, 0, none⟩ _)).from _), rfl, (g1, (0, []), 9), RUN2.out, LatX.zero S3.out LV3.out HN.out.2.1 HN.out.2.2.1 HN.out.2.2.2.1 HN.out.2.2.2.2.2.1 HN.out.2.2.2.2.2.2 9⟩
    rw [if_neg h9] at RUN2
    have heq9 : (g3 == 9) = false := beq_eq_false_iff_ne.2 h9
    gi_wp2_with fail
    refine ⟨trivial, ?_⟩
    refine (CallsIn.inRound l (callsIn_wide.2 (man_Read.calls g2 HVL.out.2 V2))).mono ?_
    rintro e V3 ⟨b3', hread⟩
    have S4 := Aside0.mk (S3.out.below b3')
    have F4 := Aside0.mk (F3.out.andThen (Frm.of_new (S := T) b3') (fun i hi => Or.inl hi))
    have LV4 := Aside0.mk (LV3.out.at_ (S := None') (Frm.of_new b3') (fun x => x) (fun x => x) (fun x => x))
    have HZ2 := Aside0.mk (show b2 < V2.heap.size ∧ b3 < V2.heap.size ∧ w.heap.size ≤ V2.heap.size from ⟨lt_of_block LV3.out.p2, lt_of_block LV3.out.p3, S3.out.frm.size⟩)
    clear S3 F3 LV3 b3'
    rcases hread with ⟨u, lu, Au, cu, hr, rfl, hRu⟩ | ⟨er, hr, rfl⟩
    ·obtain ⟨ls, hls⟩ : ∃ ls, lu.map mkSg = ls := ⟨_, rfl⟩
     have hll : lu.length = ls.length := by rw [← hls, List.length_map]
     have RUN3 := Aside0.mk (show latRun st.next ((pre ++ [x]).map (elB ns)) = (if g3 = 0 then (if u = v then (g1, some (((v : Int), ls), (0 : Int))) else (g1, none)) else (g1, none)) by rw [RUN2.out, hr]; simp only [hls])
     rw [hls, hll] at hRu
     rw [hll]
     have HRU := Aside0.mk hRu
     clear hr hls hll hRu RUN2
     by_cases h0 : g3 = 0
     ·subst h0
      rw [if_pos rfl] at RUN3
      by_cases huv : u = v
      ·subst huv
       rw [if_pos rfl] at RUN3
       have hq : ((u : Int) == (u : Int)) = true := beq_self_eq_true _
       have n2 : ¬ b2 = V3.heap.size := by have := HZ2.out.1; have := lt_of_block LV4.out.p2; omega
       have n3 : ¬ b3 = V3.heap.size := by have := lt_of_block LV4.out.p3; omega
       have n2' : ¬ V3.heap.size = b2 := fun e => n2 e.symm
       have n3' : ¬ V3.heap.size = b3 := fun e => n3 e.symm
       have bb := newTwo V3 (.cells #[.int .i64 (u : Nat), .slice Au ls.length cu] 25)
       have LV5 := Aside0.mk (LV4.out.at_ (S := None') (Frm.of_new bb) (fun x => x) (fun x => x) (fun x => x))
       have BB := Aside0.mk bb
       obtain ⟨d0, d1, dr⟩ := cells2m LV5.out.p2
       obtain ⟨q0, qr⟩ := cells1 LV5.out.p3
       clear bb
       gi_wp2_with fail
       have bb := BB.out
       refine ⟨(keeps_frm (F4.out.andThen (Frm.of_new (S := T) bb) (fun i hi => Or.inl hi)) HTB.out).trans ((((KeepsOthers.setCell _ ⟨b2, 0, none⟩ _).trans (KeepsOthers.setCell _ ⟨b2, 1, none⟩ _)).trans (KeepsOthers.setCell _ ⟨b3, 0, none⟩ _)).from _), rfl, (g1, ((u : Int), ls), 0), RUN3.out, ?_⟩
       refine LatX.put (S4.out.below bb) (LV4.out.at_ (S := None') (Frm.of_new bb) (fun x => x) (fun x => x) (fun x => x)) HN.out.2.1 HN.out.2.2.1 HN.out.2.2.2.1 HN.out.2.2.2.2.2.1 HN.out.2.2.2.2.2.2 (u : Int) Au cu ls ?_
       exact Kd.R_lower (Kd.R_mono (Kd.R_bound (Kd.R_below HRU.out bb)) (fun k hk => Or.inr ⟨by have := hk.2.1; have := HZ2.out; omega, by have := hk.2.1; have := HZ2.out; omega⟩)) HZ2.out.2.2
      ·rw [if_neg huv] at RUN3
       have hq : ((u : Int) == (v : Int)) = false := beq_eq_false_iff_ne.2 (by omega)
       gi_wp2_with fail
       exact ⟨keeps_frm (F4.out.andThen (Frm.of_new (S := T) (newTwo V3 _)) (fun i hi => Or.inl hi)) HTB.out, Kt.of_frm (F4.out.andThen (Frm.of_new (S := T) (newTwo V3 _)) (fun i hi => Or.inl hi)), g1, RUN3.out, HVL.out.1, S4.out.below (newTwo V3 _), LV4.out.at_ (S := None') (Frm.of_new (newTwo V3 _)) (fun x => x) (fun x => x) (fun x => x)⟩
     ·rw [if_neg h0] at RUN3
      have heq0 : (g3 == 0) = false := beq_eq_false_iff_ne.2 h0
      gi_wp2_with fail
      exact ⟨keeps_frm (F4.out.andThen (Frm.of_new (S := T) (newTwo V3 _)) (fun i hi => Or.inl hi)) HTB.out, Kt.of_frm (F4.out.andThen (Frm.of_new (S := T) (newTwo V3 _)) (fun i hi => Or.inl hi)), g1, RUN3.out, HVL.out.1, S4.out.below (newTwo V3 _), LV4.out.at_ (S := None') (Frm.of_new (newTwo V3 _)) (fun x => x) (fun x => x) (fun x => x)⟩
    ·have her : (er == 0) = false := beq_eq_false_iff_ne.2 (readR_bad hr)
     have RUN3 := Aside0.mk (show latRun st.next ((pre ++ [x]).map (elB ns)) = (g1, none) by rw [RUN2.out, hr]; split <;> rfl)
     clear hr RUN2
     by_cases h0 : g3 = 0
     ·subst h0
      gi_wp2_with fail
      exact ⟨keeps_frm (F4.out.andThen (Frm.of_new (S := T) (newTwo V3 _)) (fun i hi => Or.inl hi)) HTB.out, Kt.of_frm (F4.out.andThen (Frm.of_new (S := T) (newTwo V3 _)) (fun i hi => Or.inl hi)), g1, RUN3.out, HVL.out.1, S4.out.below (newTwo V3 _), LV4.out.at_ (S := None') (Frm.of_new (newTwo V3 _)) (fun x => x) (fun x => x) (fun x => x)⟩
     ·have heq0 : (g3 == 0) = false := beq_eq_false_iff_ne.2 h0
      gi_wp2_with fail
      exact ⟨keeps_frm (F4.out.andThen (Frm.of_new (S := T) (newTwo V3 _)) (fun i hi => Or.inl hi)) HTB.out, Kt.of_frm (F4.out.andThen (Frm.of_new (S := T) (newTwo V3 _)) (fun i hi => Or.inl hi)), g1, RUN3.out, HVL.out.1, S4.out.below (newTwo V3 _), LV4.out.at_ (S := None') (Frm.of_new (newTwo V3 _)) (fun x => x) (fun x => x) (fun x => x)⟩
  case done =>
   rintro D ys V hD rfl ⟨s, hs1, hs2, hs3, hs4⟩ hK
   rw [dn_map] at hs1
   rw [hs1] at e1
   have S1 := Aside0.mk hs3
   have LV := Aside0.mk hs4
   have HD := Aside0.mk hD
   have HK := Aside0.mk hK
   have hne : ¬ b2 = b3 := HN.out.2.2.2.1
   have hne' : ¬ b3 = b2 := fun e => hne e.symm
   clear hs1 hs2 hs3 hs4 hD hK
   obtain ⟨d0, d1, dr⟩ := cells2m LV.out.p2
   obtain ⟨q0, qr⟩ := cells1 LV.out.p3
   gi_wp2_with fail
   rw [Exit.noGoto_ret]
   have hK2 := (((KeepsOthers.setCell V ⟨b2, 0, none⟩ (.int .i64 0)).trans (KeepsOthers.setCell _ ⟨b2, 1, none⟩ (.slice none 0 0))).trans (KeepsOthers.setCell _ ⟨b3, 0, none⟩ (.int .i64 5))).same D _ HK.out rfl
   refine ⟨by simp, .inl ⟨_, _, rfl, run_takeDeferred hK2, ?_⟩⟩
   have hx := (LatX.zero S1.out LV.out HN.out.2.1 HN.out.2.2.1 HN.out.2.2.2.1 HN.out.2.2.2.2.2.1 HN.out.2.2.2.2.2.2 5).grown HTB.out (by have := HS3.out; omega) (grownBy_putObj' _ D (.deferred none)) (fun r e => by cases e; exact ⟨HD.out, _, hK2, rfl⟩)
   rw [show ((s, ((0 : Int), ([] : List SgI)), (5 : Int)) : Rem × (Int × List SgI) × Int) = X from e1.out] at hx
   exact hx.post rfl rfl HT.out
  case stop =>
   rintro D c pre V hD ⟨post, hpost⟩ ⟨rfl, p, hp1, hp2⟩ hK
   have hX : p = X := by
    rw [← e1.out, ← dn_map, hpost, List.map_append, latRun_append, hp1]
    rfl
   subst hX
   have HP := Aside0.mk hp2
   have HD := Aside0.mk hD
   have HK := Aside0.mk hK
   clear hp1 hp2 hD hK hpost
   gi_wp2_with fail
   rw [Exit.noGoto_ret]
   refine ⟨by simp, .inl ⟨_, _, rfl, run_takeDeferred HK.out, ?_⟩⟩
   have hx := HP.out.grown HTB.out (by have := HS3.out; omega) (grownBy_putObj' _ D (.deferred none)) (fun r e => by cases e; exact ⟨HD.out, _, HK.out, rfl⟩)
   exact hx.post rfl rfl HT.out
end Go.Proofs.YtlnbekaldemebaaGreatDoor.Thw
/-! ## Layer 13 (publish): Next (printed by gen13e.py). -/
namespace Go.Proofs.YtlnbekaldemebaaGreatDoor.Thw
open Go Go.RowKit Go.Maps Go.Proofs.YtlnbekaldemebaaGreatDoor.Print Go.Proofs.YtlnbekaldemebaaGreatDoorW.PrintWords Go.Proofs.YtlnbekaldemebaaGreatDoorW.PrintLast Go.Proofs.YtlnbekaldemebaaGreatDoorW.PrintMore
set_option linter.unusedVariables false
set_option linter.unusedSimpArgs false
def next1T : Bool × List (List Nat × List Nat) := (true, [([], []), ([0], [0]), ([1], [1]), ([], []), ([3], [3]), ([2, 4], [2, 4]), ([], []), ([6, 5, 4, 0, 1, 2, 3, 4, 5, 6], [5, 6])])
def next1B : List Nat := [0, 1, 3, 0, 8, 31, 0, 127]
theorem next1tab : rtab .any (opsOf Tryz.f14 1) = next1T := by kernel_rfl
theorem next1bits : waitsOk next1T.2 next1B = true := by kernel_rfl
theorem wrap64_rng (x : Int) : -9223372036854775808 ≤ wrap64 x ∧ wrap64 x ≤ 9223372036854775807 := by unfold wrap64; omega
theorem R_rst {α : Type} {d : Kd α} {e : Nat} {w w' : World} {base : Nat} {ok T T' : Nat → Prop} {r : Nat} {x : Rem} {v : Value} {xs : List α} (h : d.R e w base ok v xs) (S : RSt w T r x w' T') (hT : ∀ k, T k → k < base) : d.R e w' base (fun k => ¬ T' k) v xs :=
 Kd.R_mono (Kd.R_move (Kd.R_bound h) (fun k hk' => S.frm.block k hk'.2.2.1 (fun ht => by have := hT k ht; have := hk'.2.1; omega))) (fun k hk' hn => by
  rcases (S.sub k hn).1 with ht | hge
  ·have := hT k ht; have := hk'.2.1; omega
  ·have := hk'.2.2.1; omega)
set_option maxHeartbeats 3200000 in
set_option maxRecDepth 100000 in
theorem clone_segs.calls (A : Option Addr) (n c : Nat) (xs : List SgI) (w : World) (hc : Kd.C k45 w A n xs) (hl : n ≤ c) (hn : n ≤ 1000000) :
  Calls Tryz.prog 42 #[.slice A n c] w fun e w' => ∃ v, e = .returned v ∧ Kd.R k45 45 w' w.heap.size (fun _ => True) v xs ∧ Below w.heap.size w w' := by
 have HC := Aside0.mk hc
 have HN := Aside0.mk hn
 clear hc hn
 have hnil := fun (w : World) (a : Option Addr) (n c : Nat) => Lib.run_eql_slice_nil (P := Tryz.prog) w 23 45 a n c 0 0 Tryz.underlying23
 cases A with
 | none =>
  go_enter Tryz.func42, Tryz.ntmps42
  go_wp2_with fail
  go_ret
  have hx : xs = [] := by
   obtain ⟨h1, _, h2⟩ := HC.out
   rcases Nat.eq_zero_or_pos n with h0 | h0
   ·exact List.eq_nil_of_length_eq_zero (by omega)
   ·obtain ⟨ad, e, _⟩ := h2 h0; cases e
  subst hx
  exact ⟨_, rfl, Kd.R_nil _ _ _ _ _, Below.refl _ _⟩
 | some a =>
  have H0 : Kd.R k45 45 (w.alloc (.cells #[] 45)) w.heap.size (fun _ => True) (.slice (some ⟨w.heap.size, 0, none⟩) 0 0) [] :=
   ⟨fun _ _ => trivial, [], ⟨by simp, .inr ⟨w.heap.size, 0, #[], rfl, Nat.le_refl _, blk_new w _, Nat.le_refl _, Nat.zero_le _, by simp, by simp⟩⟩, by simp, fun j p h => by simp at h⟩
  go_enter Tryz.func42, Tryz.ntmps42
  go_wp2_with (at_builtin; refine Kd.R_append_rows k45 (w0 := w) w.heap.size rfl (.tmp 5) (.tmp 6) 23 45 (.agg #[.int .i64 0, .int .i64 0, .int .u32 0]) 24 rfl Tryz.underlying23 infoSeg rfl (by decide) (by omega) _ [] xs (some a) n c (fun _ => True) (fun _ => False) rfl rfl H0 (Kd.C_below HC.out (below_alloc (Below.refl _ _) _)) (fun x cs h => by rw [k45_open h]; exact k45_mkM _ _ _ x) (fun _ h => h.elim) (fun _ _ => trivial) (below_alloc (Below.refl _ _) _) (by simp) (by have := HN.out; simp; omega) ?_; intro v1 w1 hR hB hg hat; obtain ⟨A8, c8, rfl⟩ := Kd.R_slice hR; have HRR := Aside0.mk hR; have HBB := Aside0.mk hB; clear hR hB hg hat)
  go_ret
  exact ⟨_, rfl, by simpa using HRR.out, HBB.out⟩
theorem two_put {w : World} {g : Nat} {v0 v1 : Value} {t : TypeId} (h : w.heap[g]? = some (.cells #[v0, v1] t)) (u0 u1 : Value) :
  ((w.setCell ⟨g, 0, none⟩ u0).setCell ⟨g, 1, none⟩ u1).heap[g]? = some (.cells #[u0, u1] t) := by
 simp [World.setCell, Array.getElem?_modify, h]
theorem RSt.put2 {w w' : World} {T T' : Nat → Prop} {r : Nat} {x : Rem} (h : RSt w T r x w' T') {g : Nat} (hg : w.heap.size ≤ g) (hn : ¬ T' g) (u0 u1 : Value) : RSt w T r x ((w'.setCell ⟨g, 0, none⟩ u0).setCell ⟨g, 1, none⟩ u1) T' := by
 have f3 : Frm (fun i => i = g) w' ((w'.setCell ⟨g, 0, none⟩ u0).setCell ⟨g, 1, none⟩ u1) := ((Frm.refl (fun i => i = g) w').setCell (Or.inl rfl) _).setCell (Or.inl rfl) _
 refine ⟨h.at_.frm f3 (fun k hk e => hn (e ▸ hk)), fun k hk => ⟨(h.sub k hk).1, Nat.lt_of_lt_of_le (h.sub k hk).2 f3.size⟩, h.frm.andThen f3 (fun i hi => Or.inr (by rw [hi]; exact hg))⟩
/-- A manifest into the result's box. -/
theorem man_end {w V : World} {T T' : Nat → Prop} {r gr : Nat} {x : Rem} {fn : Func} {tmps : Array Value} (hfn : fn.results = #[.cell 6 25, .tmp 7]) (S : RSt w T r x V T') (hgr : w.heap.size ≤ gr) (N : ¬ T' gr) {v0 v1 : Value} (XR : V.heap[gr]? = some (.cells #[v0, v1] 25)) (n e : Int) {A : Option Addr} {c : Nat} {l : List SgI} (R : Kd.R k45 45 V w.heap.size (fun k => ¬ T' k) (.slice A l.length c) l)
  (h6 : tmps.getD 6 undef = .pointer (some ⟨gr, 0, none⟩)) (h7 : tmps.getD 7 undef = .int .i64 e) {X : Rem × (Int × List SgI) × Int} (hX : (x, (n, l), e) = X) {a' : Act} (ha : a'.tmps = tmps) (hd : a'.defers = []) :
  bodyPost Tryz.prog fn (ManPost w T r X) .ret a' ((V.setCell ⟨gr, 0, none⟩ (.int .i64 n)).setCell ⟨gr, 1, none⟩ (.slice A l.length c)) := by
 subst hX
 subst ha
 have hr := results_row_tmp (P := Tryz.prog) (fn := fn) (p := 6) (q := 7) (ty := 25) hfn a'.tmps _ gr _ _ (0, 0) _ h6 (two_put XR (.int .i64 n) (.slice A l.length c)) Tryz.underlying25 rfl (by kernel_rfl)
 rw [h7] at hr
 refine bodyPost_ret (v := .tuple #[.agg #[.int .i64 n, .slice A l.length c], .int .i64 e]) hr hd ⟨A, c, T', rfl, ?_, S.put2 hgr N _ _⟩
 have R1 := Kd.R_types R XR (by decide)
 exact Kd.R_mono (Kd.R_step R1 (fun k hk _ => by rw [Below.heap_setCell _ _ _ _ hk.2, Below.heap_setCell _ _ _ _ hk.2])) (fun _ h => h.1)
/-! ### what it comes to -/
noncomputable def pubNext (st : Rem) (v : Int) (segs : List SgI) : Rem × (Int × List SgI) × Int :=
 if (bytesR (wrap64 (v + 1)) segs).2 ≠ 0 then (st, (0, []), (bytesR (wrap64 (v + 1)) segs).2)
 else if (st.putNew (mnf (wrap64 (v + 1))) (bytesR (wrap64 (v + 1)) segs).1).2 = 0 then ((st.putNew (mnf (wrap64 (v + 1))) (bytesR (wrap64 (v + 1)) segs).1).1, (wrap64 (v + 1), segs), 0)
 else if ((st.putNew (mnf (wrap64 (v + 1))) (bytesR (wrap64 (v + 1)) segs).1).1.get (mnf (wrap64 (v + 1)))).2.2 = 0 ∧ ((st.putNew (mnf (wrap64 (v + 1))) (bytesR (wrap64 (v + 1)) segs).1).1.get (mnf (wrap64 (v + 1)))).2.1 = (bytesR (wrap64 (v + 1)) segs).1 then (((st.putNew (mnf (wrap64 (v + 1))) (bytesR (wrap64 (v + 1)) segs).1).1.get (mnf (wrap64 (v + 1)))).1, (wrap64 (v + 1), segs), 0)
 else (((st.putNew (mnf (wrap64 (v + 1))) (bytesR (wrap64 (v + 1)) segs).1).1.get (mnf (wrap64 (v + 1)))).1, (0, []), (st.putNew (mnf (wrap64 (v + 1))) (bytesR (wrap64 (v + 1)) segs).1).2)
set_option maxHeartbeats 12800000 in
set_option maxRecDepth 100000 in
theorem pub_Next.calls (w : World) (T : Nat → Prop) (r : Nat) (st : Rem) (h : RemAt w T r st) (hT : ∀ k, T k → k < w.heap.size) (hAW : ∀ W, Frm T w W → LaidW W) (v : Int) (hv : -9223372036854775808 ≤ v ∧ v ≤ 9223372036854775807) (Am : Option Addr) (nm cm : Nat) (A : Option Addr) (c : Nat) (segs : List SgI) (hC : ∀ W, Frm T w W → Kd.C k45 W A segs.length segs) (hc : segs.length ≤ c) (hl : segs.length ≤ 1000) (hu : ∀ x ∈ segs, U32 x) :
  Calls Tryz.prog 14 #[.pointer (some ⟨r, 0, none⟩), .agg #[.int .i64 v, .slice Am nm cm], .slice A segs.length c] w (ManPost w T r (pubNext st v segs)) := by
 have H := Aside0.mk h
 have HT := Aside0.mk hT
 have HAW := Aside0.mk hAW
 have HC := Aside0.mk hC
 have HL := Aside0.mk hl
 obtain ⟨q, hq⟩ := Ev.rounds (ev_Bytes (wrap64 (v + 1)) segs hl hu)
 have HQ := Aside0.mk hq
 clear h hT hAW hC hl hu hq
 obtain ⟨X, hX⟩ : ∃ X, pubNext st v segs = X := ⟨_, rfl⟩
 rw [hX]
 unfold pubNext at hX
 have HWR : -9223372036854775808 ≤ wrap64 (v + 1) ∧ wrap64 (v + 1) ≤ 9223372036854775807 := wrap64_rng _
 obtain ⟨n1, hn1⟩ : ∃ n, wrap64 (v + 1) = n := ⟨_, rfl⟩
 have HN1 := Aside0.mk (show wrap64 (v + 1) = n1 from hn1)
 rw [hn1] at hX HQ HWR
 generalize bytesR n1 segs = br at hX HQ
 obtain ⟨bb, be⟩ := br
 simp only at hX HQ
 have e1 := Aside0.mk hX
 have HWR' := Aside0.mk HWR
 have HVV := Aside0.mk hv
 clear hX hn1 HWR hv
 go_enter Tryz.func14, Tryz.ntmps14
 go_upto_region 1 with (fail)
 obtain ⟨w1, hw1⟩ : ∃ w1, (w.alloc (.cells #[.int .i64 v, .slice Am nm cm] 25)).alloc (.cells #[.int .i64 0, .slice none 0 0] 25) = w1 := ⟨_, rfl⟩
 have XM := Aside0.mk (show w1.heap[w.heap.size]? = some (.cells #[.int .i64 v, .slice Am nm cm] 25) by rw [← hw1]; exact blk_alloc (blk_new _ _) _)
 have XR := Aside0.mk (show w1.heap[w.heap.size + 1]? = some (.cells #[.int .i64 0, .slice none 0 0] 25) by rw [← hw1]; simpa using blk_new (w.alloc (.cells #[.int .i64 v, .slice Am nm cm] 25)) (.cells #[.int .i64 0, .slice none 0 0] 25))
 have B1 := Aside0.mk (show Below w.heap.size w w1 by rw [← hw1]; exact ((Below.refl _ w).alloc (Nat.le_refl _) _).alloc (by simp) _)
 rw [hw1]
 clear hw1
 obtain ⟨gr, hgr⟩ : ∃ g, w.heap.size + 1 = g := ⟨_, rfl⟩
 obtain ⟨gm, hgm⟩ : ∃ g, w.heap.size = g := ⟨_, rfl⟩
 rw [hgr] at XR ⊢
 have HG := Aside0.mk (show w.heap.size ≤ gr ∧ ¬ T gr ∧ ¬ T gm from ⟨by omega, fun hk => by have := HT.out _ hk; omega, fun hk => by have := HT.out _ hk; omega⟩)
 rw [hgm] at XM ⊢
 clear hgr hgm
 refine region_draw (n := 8) (S := fun W => W.heap[gm]? = some (.cells #[.int .i64 v, .slice Am nm cm] 25) ∧ W.heap[gr]? = some (.cells #[.int .i64 0, .slice none 0 0] 25) ∧ Below w.heap.size w W) (ds := [7]) #[false, false, false, false, false, false, false, false] (by kernel_rfl) rfl rfl (fun W => W.heap[gm]? = some (.cells #[.int .i64 v, .slice Am nm cm] 25) ∧ W.heap[gr]? = some (.cells #[.int .i64 0, .slice none 0 0] 25) ∧ Below w.heap.size w W) ⟨blk_drew XM.out, blk_drew XR.out, B1.out.drew⟩ (fun W h => h) ?_
 rintro ws ⟨hy1, hy2, hy3⟩
 refine with_tabW next1tab next1bits (fun HT_ HW_ => ?_)
 have Y1 := Aside0.mk hy1
 have Y2 := Aside0.mk hy2
 have Y3 := Aside0.mk hy3
 clear hy1 hy2 hy3
 refine pure_ (i := 0) (N := some 14) (v := ?_) (a' := ?_) #[true, false, false, false, false, false, false, false] rfl rfl (any_of HT_.out (by kernel_rfl)) (fun _ _ _ h => h) (Or.inl ⟨by rfl, ?_⟩) ?_ ?_
 rotate_left
 ·intro w'
  go_simp
  with_reducible rfl
 rotate_left
 ·simp only [Act.put, List.setIfInBounds_toArray, List.set_cons_zero, List.set_cons_succ, i64_w, i32_w]
  rfl
 refine take_ (i := 1) (N := some 15) (v := ?_) (a' := ?_) #[true, true, false, false, false, false, false, false] rfl rfl (take_ofW HT_.out HW_.out (by kernel_rfl)) (fun _ _ _ h => h) (Or.inl ⟨by rfl, ?_⟩) ⟨Y1.out, Y2.out, Y3.out⟩ ?_ ?_
 rotate_left
 ·intro w' hW
  obtain ⟨c0, c1, cr⟩ := cells2m hW.1
  go_simp
  with_reducible rfl
 rotate_left
 ·simp only [Act.put, List.setIfInBounds_toArray, List.set_cons_zero, List.set_cons_succ, i64_w, i32_w]
  rfl
 refine pure_ (i := 2) (N := some 16) (v := ?_) (a' := ?_) #[true, true, true, false, false, false, false, false] rfl rfl (any_of HT_.out (by kernel_rfl)) (fun _ _ _ h => h) (Or.inl ⟨by rfl, ?_⟩) ?_ ?_
 rotate_left
 ·intro w'
  go_simp
  with_reducible rfl
 rotate_left
 ·simp only [Act.put, List.setIfInBounds_toArray, List.set_cons_zero, List.set_cons_succ, i64_w, i32_w]
  rfl
 refine pure_ (i := 3) (N := some 17) (v := ?_) (a' := ?_) #[true, true, true, true, false, false, false, false] rfl rfl (any_of HT_.out (by kernel_rfl)) (fun _ _ _ h => h) (Or.inl ⟨by rfl, ?_⟩) ?_ ?_
 rotate_left
 ·intro w'
  go_simp
  with_reducible rfl
 rotate_left
 ·simp only [Act.put, List.setIfInBounds_toArray, List.set_cons_zero, List.set_cons_succ, i64_w, i32_w]
  rfl
 refine two_ (i := 4) (j := 6) (Ni := some 18) (Nj := some 8) #[true, true, true, true, true, false, false, false] #[true, true, true, true, false, false, true, false] rfl rfl rfl rfl (two_of HT_.out (by kernel_rfl)) (by decide) (by decide) (fun K hK => ?_) (fun K hK => ?_)
 ·skip
  refine goes_ Tryz.func42 (by kernel_rfl) rfl #[.slice A segs.length c] (by rfl) rfl rfl (by (try simp only [List.map_toArray, List.map_cons, List.map_nil]); first | done | rfl) ?_
  refine (clone_segs.calls A segs.length c segs ws (HC.out _ (Frm.of_new Y3.out)) hc (by have := HL.out; omega)).mono ?_
  rintro e w5 ⟨vv, rfl, hR, hB⟩
  obtain ⟨A2, c2, rfl⟩ := Kd.R_slice hR
  refine ⟨_, rfl, ?_⟩
  have Z1 := Aside0.mk (blk_below Y1.out hB)
  have Z2 := Aside0.mk (blk_below Y2.out hB)
  have Z3 := Aside0.mk (Y3.out.trans (hB.mono Y3.out.size))
  have RZ := Aside0.mk (Kd.R_lower hR Y3.out.size)
  clear hR hB
  refine hK.out _ _ ⟨Z1.out, Z2.out, Z3.out⟩ (fun _ => ?_)
  clear hK K
  refine norm_ (a' := ?_) ?_ ?_
  rotate_left
  ·show Act.put _ (some 18) _ = _
   simp only [Act.put, List.setIfInBounds_toArray, List.set_cons_zero, List.set_cons_succ, i64_w, i32_w]
   rfl
  refine pure_ (i := 5) (N := some 19) (v := ?_) (a' := ?_) #[true, true, true, true, true, true, false, false] rfl rfl (any_of HT_.out (by kernel_rfl)) (fun _ _ _ h => h) (Or.inl ⟨by rfl, ?_⟩) ?_ ?_
  rotate_left
  ·intro w'
   go_simp
   with_reducible rfl
  rotate_left
  ·simp only [Act.put, List.setIfInBounds_toArray, List.set_cons_zero, List.set_cons_succ, i64_w, i32_w]
   rfl
  refine one_ (i := 6) (N := some 8) #[true, true, true, true, true, true, true, false] rfl rfl (one_of HT_.out (by kernel_rfl)) (by decide) (fun K hK => ?_)
  refine box_step (by rfl) (N := 8) (by rfl) (by first | (go_simp; done) | (go_simp; rfl)) ?_
  intro bx hbx wl x7 b7
  have HNE := Aside0.mk (show gr ≠ bx by have := lt_of_block Z2.out; omega)
  have HBX := Aside0.mk (show w.heap.size ≤ bx by have := Z3.out.size; omega)
  have HBT := Aside0.mk (show ¬ T bx from fun hk => by have := HT.out _ hk; have := Z3.out.size; omega)
  have XB := Aside0.mk x7
  have XML := Aside0.mk (blk_below Z1.out b7)
  have XRL := Aside0.mk (blk_below Z2.out b7)
  have BL := Aside0.mk (Z3.out.trans (b7.mono Z3.out.size))
  have RL := Aside0.mk (Kd.R_below RZ.out b7)
  clear x7 b7 hbx Z1 Z2 Z3 RZ
  refine hK.out _ _ ⟨XML.out, XRL.out, BL.out⟩ (fun _ => ?_)
  clear hK K XML
  refine norm_ (a' := ?_) ?_ ?_
  rotate_left
  ·show Act.put _ (some 8) _ = _
   simp only [Act.put, List.setIfInBounds_toArray, List.set_cons_zero, List.set_cons_succ, i64_w, i32_w]
   rfl
  refine last_ (i := 7) (N := none) #[true, true, true, true, true, true, true, true] rfl rfl (one_of HT_.out (by kernel_rfl)) (by decide) (fun K hK => ?_)
  obtain ⟨e0, e1', er⟩ := cells2m XB.out
  refine skip_ (w1 := ?_) (by rfl) rfl ?_ ?_
  rotate_left
  ·go_simp
   rfl
  refine hK.out _ _ ?_
  clear hK K
  refine done_ (done_of HT_.out (by kernel_rfl)) ?_
  clear e0 e1' er
  rw [HN1.out]
  have HX3 := Aside0.mk (show ((wl.setCell ⟨bx, 0, none⟩ (.int .i64 n1)).setCell ⟨bx, 1, none⟩ (.slice A2 segs.length c2)).heap[bx]? = some (.cells #[.int .i64 n1, .slice A2 segs.length c2] 25) from two_put XB.out _ _)
  have XR3 := Aside0.mk (show ((wl.setCell ⟨bx, 0, none⟩ (.int .i64 n1)).setCell ⟨bx, 1, none⟩ (.slice A2 segs.length c2)).heap[gr]? = some (.cells #[.int .i64 0, .slice none 0 0] 25) by rw [Below.heap_setCell _ _ _ _ HNE.out, Below.heap_setCell _ _ _ _ HNE.out]; exact XRL.out)
  have B3 := Aside0.mk (show Below w.heap.size w ((wl.setCell ⟨bx, 0, none⟩ (.int .i64 n1)).setCell ⟨bx, 1, none⟩ (.slice A2 segs.length c2)) from (BL.out.setCell (p := ⟨bx, 0, none⟩) HBX.out _).setCell (p := ⟨bx, 1, none⟩) HBX.out _)
  have R3 := Aside0.mk (show Kd.R k45 45 ((wl.setCell ⟨bx, 0, none⟩ (.int .i64 n1)).setCell ⟨bx, 1, none⟩ (.slice A2 segs.length c2)) w.heap.size (fun _ => True) (.slice A2 segs.length c2) segs from Kd.R_mono (Kd.R_step (Kd.R_types RL.out XB.out (by decide)) (fun k hk _ => by rw [Below.heap_setCell _ _ _ _ hk.2, Below.heap_setCell _ _ _ _ hk.2])) (fun _ _ => trivial))
  generalize ((wl.setCell ⟨bx, 0, none⟩ (.int .i64 n1)).setCell ⟨bx, 1, none⟩ (.slice A2 segs.length c2)) = w3 at HX3 XR3 B3 R3 ⊢
  clear XB XRL BL RL
  have S3 := Aside0.mk (RSt.refl (H.out.frm (S := None') (Frm.of_new B3.out) (fun _ _ x => x)) (fun k hk => by have := HT.out k hk; have := B3.out.size; omega))
  have N3 := Aside0.mk (lt_of_block XR3.out)
  have CB := Aside0.mk (Kd.R_reads' R3.out).2.2
  obtain ⟨d0, d1, dr⟩ := cells2m HX3.out
  go_wp2_with fail
  refine (manifest_Bytes.calls q n1 A2 c2 segs bb be _ CB.out (Kd.R_reads' R3.out).2.1 HQ.out).mono ?_
  rintro e w4 ⟨rfl, b4⟩
  have S4 := Aside0.mk (S3.out.below b4)
  have HX4 := Aside0.mk (blk_below HX3.out b4)
  have XR4 := Aside0.mk (blk_below XR3.out b4)
  have R4 := Aside0.mk (Kd.R_below R3.out b4)
  clear b4 S3 d0 d1 dr
  by_cases he : be = 0
  case neg =>
   rw [if_pos he] at e1
   have heq : (be == 0) = false := beq_eq_false_iff_ne.2 he
   obtain ⟨g0, g1, gx⟩ := cells2m XR4.out
   go_wp2_with fail
   exact man_end (fn := Tryz.f14) rfl (S4.out.back B3.out) HG.out.1 HG.out.2.1 XR4.out 0 be (l := []) (Kd.R_nil _ _ _ _ _) rfl rfl e1.out rfl rfl
  subst he
  rw [if_neg (by simp)] at e1
  obtain ⟨d0, d1, dr⟩ := cells2m HX4.out
  go_wp2_with fail
  refine (man_Name.calls n1 HWR'.out _ (HAW.out _ (S4.out.back B3.out).frm)).mono ?_
  rintro e w5 ⟨rfl, b5⟩
  have S5 := Aside0.mk (S4.out.below b5)
  have HX5 := Aside0.mk (blk_below HX4.out b5)
  have XR5 := Aside0.mk (blk_below XR4.out b5)
  have R5 := Aside0.mk (Kd.R_below R4.out b5)
  clear b5 S4 d0 d1 dr
  go_wp2_with fail
  refine (remote_PutNew.calls w5 _ r st S5.out.at_ (mnf n1) bb (man_size n1)).mono ?_
  rintro e w6 ⟨rfl, h6, f6⟩
  obtain ⟨T6, S6⟩ : ∃ T6, Aside0 (RSt w3 T r (st.putNew (mnf n1) bb).1 w6 T6) := ⟨_, ⟨S5.out.step h6 f6⟩⟩
  have N6 := Aside0.mk (S6.out.not N3.out HG.out.2.1)
  have HX6 := Aside0.mk (S6.out.keeps HX3.out HBT.out)
  have XR6 := Aside0.mk (S6.out.keeps XR3.out HG.out.2.1)
  have R6 := Aside0.mk (R_rst R3.out S6.out HT.out)
  have L3 := Aside0.mk (lt_of_block HX3.out)
  clear h6 f6 S5 HX5 XR5 R5 HX4 XR4 R4
  generalize st.putNew (mnf n1) bb = pn at e1 S6 ⊢
  obtain ⟨p1, p2⟩ := pn
  simp only at e1 S6 ⊢
  by_cases hp : p2 = 0
  case pos =>
   subst hp
   rw [if_pos rfl] at e1
   obtain ⟨d0, d1, dr⟩ := cells2m HX6.out
   obtain ⟨g0, g1, gx⟩ := cells2m XR6.out
   go_wp2_with fail
   exact man_end (fn := Tryz.f14) rfl (S6.out.back B3.out) HG.out.1 N6.out XR6.out n1 0 R6.out rfl rfl e1.out rfl rfl
  rw [if_neg hp] at e1
  have hpq : (p2 == 0) = false := beq_eq_false_iff_ne.2 hp
  go_wp2_with fail
  refine (remote_Get.calls w6 _ r p1 S6.out.at_ (mnf n1) (man_size n1)).mono ?_
  rintro e w7 ⟨rfl, h7, f7⟩
  obtain ⟨T7, S7⟩ : ∃ T7, Aside0 (RSt w3 T r (p1.get (mnf n1)).1 w7 T7) := ⟨_, ⟨S6.out.step h7 f7⟩⟩
  have N7 := Aside0.mk (S7.out.not N3.out HG.out.2.1)
  have HX7 := Aside0.mk (S7.out.keeps HX3.out HBT.out)
  have XR7 := Aside0.mk (S7.out.keeps XR3.out HG.out.2.1)
  have R7 := Aside0.mk (R_rst R3.out S7.out HT.out)
  clear h7 f7 S6 HX6 XR6 R6 N6
  generalize p1.get (mnf n1) = gt at e1 S7 ⊢
  obtain ⟨g1, g2, g3⟩ := gt
  simp only at e1 S7 ⊢
  obtain ⟨d0, d1, dr⟩ := cells2m HX7.out
  obtain ⟨y0, y1, yr⟩ := cells2m XR7.out
  by_cases hg3 : g3 = 0
  ·subst hg3
   by_cases hgb : g2 = bb
   ·subst hgb
    rw [if_pos ⟨rfl, rfl⟩] at e1
    have heq : (g2.toList == g2.toList) = true := beq_self_eq_true _
    go_wp2_with fail
    exact man_end (fn := Tryz.f14) rfl (S7.out.back B3.out) HG.out.1 N7.out XR7.out n1 0 R7.out rfl rfl e1.out rfl rfl
   ·rw [if_neg (fun hh => hgb hh.2)] at e1
    have heq : (g2.toList == bb.toList) = false := beq_eq_false_iff_ne.2 (fun e => hgb (WideShapes.bytes_inj (by rw [Lib.toList_data, Lib.toList_data] at e; exact e)))
    go_wp2_with fail
    exact man_end (fn := Tryz.f14) rfl (S7.out.back B3.out) HG.out.1 N7.out XR7.out 0 p2 (l := []) (Kd.R_nil _ _ _ _ _) rfl rfl e1.out rfl rfl
  ·rw [if_neg (fun hh => hg3 hh.1)] at e1
   have heq : (g3 == 0) = false := beq_eq_false_iff_ne.2 hg3
   go_wp2_with fail
   exact man_end (fn := Tryz.f14) rfl (S7.out.back B3.out) HG.out.1 N7.out XR7.out 0 p2 (l := []) (Kd.R_nil _ _ _ _ _) rfl rfl e1.out rfl rfl
 ·skip
  refine box_step (by rfl) (N := 8) (by rfl) (by first | (go_simp; done) | (go_simp; rfl)) ?_
  intro bx hbx w5 x7 b7
  have HNE := Aside0.mk (show gr ≠ bx by have := lt_of_block Y2.out; omega)
  have HBX := Aside0.mk (show w.heap.size ≤ bx by have := Y3.out.size; omega)
  have HBT := Aside0.mk (show ¬ T bx from fun hk => by have := HT.out _ hk; have := Y3.out.size; omega)
  have X5 := Aside0.mk x7
  have Z1 := Aside0.mk (blk_below Y1.out b7)
  have Z2 := Aside0.mk (blk_below Y2.out b7)
  have Z3 := Aside0.mk (Y3.out.trans (b7.mono Y3.out.size))
  clear x7 b7 hbx
  refine hK.out _ _ ⟨Z1.out, Z2.out, Z3.out⟩ (fun _ => ?_)
  clear hK K
  refine norm_ (a' := ?_) ?_ ?_
  rotate_left
  ·show Act.put _ (some 8) _ = _
   simp only [Act.put, List.setIfInBounds_toArray, List.set_cons_zero, List.set_cons_succ, i64_w, i32_w]
   rfl
  refine one_ (i := 4) (N := some 18) #[true, true, true, true, true, false, true, false] rfl rfl (one_of HT_.out (by kernel_rfl)) (by decide) (fun K hK => ?_)
  refine goes_ Tryz.func42 (by kernel_rfl) rfl #[.slice A segs.length c] (by rfl) rfl rfl (by (try simp only [List.map_toArray, List.map_cons, List.map_nil]); first | done | rfl) ?_
  refine (clone_segs.calls A segs.length c segs w5 (HC.out _ (Frm.of_new Z3.out)) hc (by have := HL.out; omega)).mono ?_
  rintro e wl ⟨vv, rfl, hR, hB⟩
  obtain ⟨A2, c2, rfl⟩ := Kd.R_slice hR
  refine ⟨_, rfl, ?_⟩
  have XB := Aside0.mk (blk_below X5.out hB)
  have XML := Aside0.mk (blk_below Z1.out hB)
  have XRL := Aside0.mk (blk_below Z2.out hB)
  have BL := Aside0.mk (Z3.out.trans (hB.mono Z3.out.size))
  have RL := Aside0.mk (Kd.R_lower hR Z3.out.size)
  clear hR hB Z1 Z2 Z3
  refine hK.out _ _ ⟨XML.out, XRL.out, BL.out⟩ (fun _ => ?_)
  clear hK K XML
  refine norm_ (a' := ?_) ?_ ?_
  rotate_left
  ·show Act.put _ (some 18) _ = _
   simp only [Act.put, List.setIfInBounds_toArray, List.set_cons_zero, List.set_cons_succ, i64_w, i32_w]
   rfl
  refine pure_ (i := 5) (N := some 19) (v := ?_) (a' := ?_) #[true, true, true, true, true, true, true, false] rfl rfl (any_of HT_.out (by kernel_rfl)) (fun _ _ _ h => h) (Or.inl ⟨by rfl, ?_⟩) ?_ ?_
  rotate_left
  ·intro w'
   go_simp
   with_reducible rfl
  rotate_left
  ·simp only [Act.put, List.setIfInBounds_toArray, List.set_cons_zero, List.set_cons_succ, i64_w, i32_w]
   rfl
  refine last_ (i := 7) (N := none) #[true, true, true, true, true, true, true, true] rfl rfl (one_of HT_.out (by kernel_rfl)) (by decide) (fun K hK => ?_)
  obtain ⟨e0, e1', er⟩ := cells2m XB.out
  refine skip_ (w1 := ?_) (by rfl) rfl ?_ ?_
  rotate_left
  ·go_simp
   rfl
  refine hK.out _ _ ?_
  clear hK K
  refine done_ (done_of HT_.out (by kernel_rfl)) ?_
  clear e0 e1' er
  rw [HN1.out]
  have HX3 := Aside0.mk (show ((wl.setCell ⟨bx, 0, none⟩ (.int .i64 n1)).setCell ⟨bx, 1, none⟩ (.slice A2 segs.length c2)).heap[bx]? = some (.cells #[.int .i64 n1, .slice A2 segs.length c2] 25) from two_put XB.out _ _)
  have XR3 := Aside0.mk (show ((wl.setCell ⟨bx, 0, none⟩ (.int .i64 n1)).setCell ⟨bx, 1, none⟩ (.slice A2 segs.length c2)).heap[gr]? = some (.cells #[.int .i64 0, .slice none 0 0] 25) by rw [Below.heap_setCell _ _ _ _ HNE.out, Below.heap_setCell _ _ _ _ HNE.out]; exact XRL.out)
  have B3 := Aside0.mk (show Below w.heap.size w ((wl.setCell ⟨bx, 0, none⟩ (.int .i64 n1)).setCell ⟨bx, 1, none⟩ (.slice A2 segs.length c2)) from (BL.out.setCell (p := ⟨bx, 0, none⟩) HBX.out _).setCell (p := ⟨bx, 1, none⟩) HBX.out _)
  have R3 := Aside0.mk (show Kd.R k45 45 ((wl.setCell ⟨bx, 0, none⟩ (.int .i64 n1)).setCell ⟨bx, 1, none⟩ (.slice A2 segs.length c2)) w.heap.size (fun _ => True) (.slice A2 segs.length c2) segs from Kd.R_mono (Kd.R_step (Kd.R_types RL.out XB.out (by decide)) (fun k hk _ => by rw [Below.heap_setCell _ _ _ _ hk.2, Below.heap_setCell _ _ _ _ hk.2])) (fun _ _ => trivial))
  generalize ((wl.setCell ⟨bx, 0, none⟩ (.int .i64 n1)).setCell ⟨bx, 1, none⟩ (.slice A2 segs.length c2)) = w3 at HX3 XR3 B3 R3 ⊢
  clear XB XRL BL RL
  have S3 := Aside0.mk (RSt.refl (H.out.frm (S := None') (Frm.of_new B3.out) (fun _ _ x => x)) (fun k hk => by have := HT.out k hk; have := B3.out.size; omega))
  have N3 := Aside0.mk (lt_of_block XR3.out)
  have CB := Aside0.mk (Kd.R_reads' R3.out).2.2
  obtain ⟨d0, d1, dr⟩ := cells2m HX3.out
  go_wp2_with fail
  refine (manifest_Bytes.calls q n1 A2 c2 segs bb be _ CB.out (Kd.R_reads' R3.out).2.1 HQ.out).mono ?_
  rintro e w4 ⟨rfl, b4⟩
  have S4 := Aside0.mk (S3.out.below b4)
  have HX4 := Aside0.mk (blk_below HX3.out b4)
  have XR4 := Aside0.mk (blk_below XR3.out b4)
  have R4 := Aside0.mk (Kd.R_below R3.out b4)
  clear b4 S3 d0 d1 dr
  by_cases he : be = 0
  case neg =>
   rw [if_pos he] at e1
   have heq : (be == 0) = false := beq_eq_false_iff_ne.2 he
   obtain ⟨g0, g1, gx⟩ := cells2m XR4.out
   go_wp2_with fail
   exact man_end (fn := Tryz.f14) rfl (S4.out.back B3.out) HG.out.1 HG.out.2.1 XR4.out 0 be (l := []) (Kd.R_nil _ _ _ _ _) rfl rfl e1.out rfl rfl
  subst he
  rw [if_neg (by simp)] at e1
  obtain ⟨d0, d1, dr⟩ := cells2m HX4.out
  go_wp2_with fail
  refine (man_Name.calls n1 HWR'.out _ (HAW.out _ (S4.out.back B3.out).frm)).mono ?_
  rintro e w5 ⟨rfl, b5⟩
  have S5 := Aside0.mk (S4.out.below b5)
  have HX5 := Aside0.mk (blk_below HX4.out b5)
  have XR5 := Aside0.mk (blk_below XR4.out b5)
  have R5 := Aside0.mk (Kd.R_below R4.out b5)
  clear b5 S4 d0 d1 dr
  go_wp2_with fail
  refine (remote_PutNew.calls w5 _ r st S5.out.at_ (mnf n1) bb (man_size n1)).mono ?_
  rintro e w6 ⟨rfl, h6, f6⟩
  obtain ⟨T6, S6⟩ : ∃ T6, Aside0 (RSt w3 T r (st.putNew (mnf n1) bb).1 w6 T6) := ⟨_, ⟨S5.out.step h6 f6⟩⟩
  have N6 := Aside0.mk (S6.out.not N3.out HG.out.2.1)
  have HX6 := Aside0.mk (S6.out.keeps HX3.out HBT.out)
  have XR6 := Aside0.mk (S6.out.keeps XR3.out HG.out.2.1)
  have R6 := Aside0.mk (R_rst R3.out S6.out HT.out)
  have L3 := Aside0.mk (lt_of_block HX3.out)
  clear h6 f6 S5 HX5 XR5 R5 HX4 XR4 R4
  generalize st.putNew (mnf n1) bb = pn at e1 S6 ⊢
  obtain ⟨p1, p2⟩ := pn
  simp only at e1 S6 ⊢
  by_cases hp : p2 = 0
  case pos =>
   subst hp
   rw [if_pos rfl] at e1
   obtain ⟨d0, d1, dr⟩ := cells2m HX6.out
   obtain ⟨g0, g1, gx⟩ := cells2m XR6.out
   go_wp2_with fail
   exact man_end (fn := Tryz.f14) rfl (S6.out.back B3.out) HG.out.1 N6.out XR6.out n1 0 R6.out rfl rfl e1.out rfl rfl
  rw [if_neg hp] at e1
  have hpq : (p2 == 0) = false := beq_eq_false_iff_ne.2 hp
  go_wp2_with fail
  refine (remote_Get.calls w6 _ r p1 S6.out.at_ (mnf n1) (man_size n1)).mono ?_
  rintro e w7 ⟨rfl, h7, f7⟩
  obtain ⟨T7, S7⟩ : ∃ T7, Aside0 (RSt w3 T r (p1.get (mnf n1)).1 w7 T7) := ⟨_, ⟨S6.out.step h7 f7⟩⟩
  have N7 := Aside0.mk (S7.out.not N3.out HG.out.2.1)
  have HX7 := Aside0.mk (S7.out.keeps HX3.out HBT.out)
  have XR7 := Aside0.mk (S7.out.keeps XR3.out HG.out.2.1)
  have R7 := Aside0.mk (R_rst R3.out S7.out HT.out)
  clear h7 f7 S6 HX6 XR6 R6 N6
  generalize p1.get (mnf n1) = gt at e1 S7 ⊢
  obtain ⟨g1, g2, g3⟩ := gt
  simp only at e1 S7 ⊢
  obtain ⟨d0, d1, dr⟩ := cells2m HX7.out
  obtain ⟨y0, y1, yr⟩ := cells2m XR7.out
  by_cases hg3 : g3 = 0
  ·subst hg3
   by_cases hgb : g2 = bb
   ·subst hgb
    rw [if_pos ⟨rfl, rfl⟩] at e1
    have heq : (g2.toList == g2.toList) = true := beq_self_eq_true _
    go_wp2_with fail
    exact man_end (fn := Tryz.f14) rfl (S7.out.back B3.out) HG.out.1 N7.out XR7.out n1 0 R7.out rfl rfl e1.out rfl rfl
   ·rw [if_neg (fun hh => hgb hh.2)] at e1
    have heq : (g2.toList == bb.toList) = false := beq_eq_false_iff_ne.2 (fun e => hgb (WideShapes.bytes_inj (by rw [Lib.toList_data, Lib.toList_data] at e; exact e)))
    go_wp2_with fail
    exact man_end (fn := Tryz.f14) rfl (S7.out.back B3.out) HG.out.1 N7.out XR7.out 0 p2 (l := []) (Kd.R_nil _ _ _ _ _) rfl rfl e1.out rfl rfl
  ·rw [if_neg (fun hh => hg3 hh.1)] at e1
   have heq : (g3 == 0) = false := beq_eq_false_iff_ne.2 hg3
   go_wp2_with fail
   exact man_end (fn := Tryz.f14) rfl (S7.out.back B3.out) HG.out.1 N7.out XR7.out 0 p2 (l := []) (Kd.R_nil _ _ _ _ _) rfl rfl e1.out rfl rfl
end Go.Proofs.YtlnbekaldemebaaGreatDoor.Thw
