/- Layer 7: the remote's object in memory, and what its calls do to it. -/
import Derived.Test.YtnkadkahdnnbbaaHead
namespace Go.Proofs.Ytnkadkahdnnbbaa.Thw
open Go Go.RowKit Go.Proofs.YtnkadkahdnnbbaaW.PrintWords Go.Proofs.YtnkadkahdnnbbaaW.PrintLast Go.Proofs.YtnkadkahdnnbbaaW.PrintMore
set_option linter.unusedVariables false
set_option linter.unusedSimpArgs false

theorem intinfo : (Try.prog.info? 3).map (fun i => (i.zero, i.size, i.bytes)) = some (some (.int .i64 0), 1, 8) := by kernel_rfl
set_option maxHeartbeats 1600000 in
set_option maxRecDepth 100000 in
theorem clone_ints.calls (A : Option Addr) (n c : Nat) (xs : List Int) (w : World) (hc : (Kd.int .i64).C w A n xs) (hl : n ≤ c) (hn : n * 8 ≤ 140737488351232) :
    Calls Try.prog 34 #[.slice A n c] w fun e w' => ∃ v, e = .returned v ∧ (Kd.int .i64).R 3 w' w.heap.size (fun _ => True) v xs ∧ Below w.heap.size w w' := by
  have HC := Aside0.mk hc
  have HN := Aside0.mk hn
  clear hc hn
  have hnil := fun (w : World) (a : Option Addr) (n c : Nat) => Lib.run_eql_slice_nil (P := Try.prog) w 23 3 a n c 0 0 Try.underlying23
  cases A with
  | none =>
    go_enter Try.func34, Try.ntmps34
    go_wp2_with fail
    go_ret
    have hx : xs = [] := by
      obtain ⟨h1, _, h2⟩ := HC.out
      rcases Nat.eq_zero_or_pos n with h0 | h0
      · exact List.eq_nil_of_length_eq_zero (by omega)
      · obtain ⟨ad, e, _⟩ := h2 h0; cases e
    subst hx
    exact ⟨_, rfl, Kd.R_nil _ _ _ _ _, Below.refl _ _⟩
  | some a =>
    have H0 : (Kd.int .i64).R 3 (w.alloc (.cells #[] 3)) w.heap.size (fun _ => True) (.slice (some ⟨w.heap.size, 0, none⟩) 0 0) [] :=
      Kd.R_of_own (own_lit_of (enc := Value.int .i64) w w.heap.size 3 [] (Nat.le_refl _) (by decide)) (fun _ _ => trivial)
    go_enter Try.func34, Try.ntmps34
    go_wp2_with (at_builtin; refine Kd.R_append_row (Value.int .i64) 0 (w0 := w) w.heap.size rfl (.tmp 5) (.tmp 6) 23 3 (.int .i64 0) 8 rfl Try.underlying23 intinfo rfl (by decide) _ [] xs (some a) n c (fun _ => True) rfl rfl (fun _ _ => trivial) H0 (Kd.C_below HC.out (below_alloc (Below.refl _ _) _)) (below_alloc (Below.refl _ _) _) (by simp) (by have := HN.out; simp; omega) ?_; intro v1 w1 hR hB hg hat)
    go_ret
    exact ⟨_, rfl, hR, hB⟩

/-- A set of blocks, and all that is new. -/
def gr (A : Nat → Prop) (w : World) : Nat → Prop := fun k => A k ∨ w.heap.size ≤ k
theorem cells1 {w : World} {s : Nat} {v0 : Value} {t : TypeId} (h : w.heap[s]? = some (.cells #[v0] t)) : w.cell? ⟨s, 0, none⟩ = some v0 ∧ w.frozen? ⟨s, 0, none⟩ = false := by
  refine ⟨?_, ?_⟩ <;> simp [World.cell?, World.frozen?, h]
theorem cells3 {w : World} {s : Nat} {v0 v1 v2 : Value} {t : TypeId} (h : w.heap[s]? = some (.cells #[v0, v1, v2] t)) :
    w.cell? ⟨s, 0, none⟩ = some v0 ∧ w.cell? ⟨s, 1, none⟩ = some v1 ∧ w.cell? ⟨s, 2, none⟩ = some v2 ∧ ∀ i, w.frozen? ⟨s, i, none⟩ = false := by
  refine ⟨?_, ?_, ?_, fun i => ?_⟩ <;> simp [World.cell?, World.frozen?, h]
theorem Q_frm {α : Type} {d : Kd α} {e : Nat} {w w1 : World} {base : Nat} {ok S : Nat → Prop} {v : Value} {xs : List α} (h : d.Q e w base ok v xs) (hf : Frm S w w1) (hn : ∀ k, ok k → ¬ S k) : d.Q e w1 base ok v xs :=
  Kd.Q_step h (fun k ho hk => hf.block k hk (hn k ho))
/-- What a block of another kind is written to does not touch a row. -/
theorem Q_setc {α : Type} {d : Kd α} {e : Nat} {w : World} {base : Nat} {ok : Nat → Prop} {v : Value} {xs : List α} (h : d.Q e w base ok v xs) {g t : Nat} {cells : Array Value} (hb : w.heap[g]? = some (.cells cells t (0, 0))) (ht : ∀ q, q ∈ e :: d.E → q ≠ t) (j : Nat) (u : Value) :
    d.Q e (w.setCell ⟨g, j, none⟩ u) base ok v xs := Kd.Q_set h hb ht j u
theorem Q_notmap {α : Type} {d : Kd α} {e : Nat} {w w1 : World} {base : Nat} {ok : Nat → Prop} {v : Value} {xs : List α} (h : d.Q e w base ok v xs) {mb : Nat} {es : Array MapEntry} {cl : Nat} (hb : w.heap[mb]? = some (.map es cl)) (hf : Frm (fun i => i = mb) w w1) : d.Q e w1 base ok v xs :=
  Kd.Q_mono (Q_frm (Kd.Q_bound h) hf (fun k hk => by
    obtain ⟨_, _, _, q, _, cs, hc⟩ := hk
    rintro rfl
    rw [hc] at hb; cases hb)) (fun _ hk => hk.1)

/-! ### the remote -/
structure Rem where
  m : List (ByteArray × ByteArray)
  s : List Int
  n : Int
def RemAt (w : World) (A : Nat → Prop) (r : Nat) (st : Rem) : Prop :=
  ∃ mb sv, A r ∧ A mb ∧ w.heap[r]? = some (.cells #[.map (some mb), sv, .int .i64 st.n] 71) ∧ MapOf Try.prog 9 Value.string Value.string w mb st.m ∧ (Kd.int .i64).Q 3 w 0 A sv st.s
theorem RemAt.mono {w : World} {A A' : Nat → Prop} {r : Nat} {st : Rem} (h : RemAt w A r st) (hA : ∀ k, k < w.heap.size → A k → A' k) : RemAt w A' r st := by
  obtain ⟨mb, sv, a1, a2, hb, hm, hq⟩ := h
  exact ⟨mb, sv, hA _ (blk_lt hb) a1, hA _ hm.lt a2, hb, hm, Kd.Q_mono (Kd.Q_bound hq) (fun k hk => hA k hk.2.2.1 hk.1)⟩
theorem RemAt.frm {w w' : World} {A S : Nat → Prop} {r : Nat} {st : Rem} (h : RemAt w A r st) (hf : Frm S w w') (hn : ∀ k, A k → ¬ S k) : RemAt w' A r st := by
  obtain ⟨mb, sv, a1, a2, hb, hm, hq⟩ := h
  exact ⟨mb, sv, a1, a2, hf.keeps hb (hn _ a1), hm.frm hf (hn _ a2), Q_frm hq hf hn⟩
theorem RemAt.lt {w : World} {A : Nat → Prop} {r : Nat} {st : Rem} (h : RemAt w A r st) : r < w.heap.size := by
  obtain ⟨mb, sv, a1, a2, hb, hm, hq⟩ := h
  exact blk_lt hb
theorem strOk {s : ByteArray} (h : s.size ≤ 140737488351232) : ∃ l, keyOf Try.prog 9 (.string s) = some l := ⟨_, Go.WideMaps.keyOf_string_mk Try.underlying9 (by unfold maxLen; omega)⟩
theorem strInj (a b : ByteArray) (h : Value.string a = Value.string b) : a = b := by injection h
theorem strKeyed : Go.Maps.Keyed Try.prog 9 := Go.Maps.string_keyed Try.underlying9

set_option maxHeartbeats 1600000 in
theorem remote_New.calls (w : World) : Calls Try.prog 9 #[] w fun e w' => ∃ r, e = .returned (.pointer (some ⟨r, 0, none⟩)) ∧ RemAt w' (fun k => w.heap.size ≤ k) r ⟨[], [], 0⟩ ∧ Below w.heap.size w w' := by
  have hmm := @run_makeMap Try.prog
  go_enter Try.func9, Try.ntmps9
  go_wp2_with fail
  go_ret
  refine ⟨_, rfl, ⟨w.heap.size, _, by simp, Nat.le_refl _, by rw [show w.heap.size + 1 = (w.alloc (.map #[] 0)).heap.size by simp]; exact blk_new _ _, MapOf.frm (MapOf.made w) ((Frm.refl None' _).alloc _) (fun x => x.elim), Kd.Q_nil _ _ _ _ _⟩, ((Below.refl _ _).alloc (Nat.le_refl _) _).alloc (by simp) _⟩
set_option maxHeartbeats 1600000 in
theorem remote_Calls.calls (w : World) (A : Nat → Prop) (r : Nat) (st : Rem) (h : RemAt w A r st) : Calls Try.prog 13 #[.pointer (some ⟨r, 0, none⟩)] w fun e w' => e = .returned (.int .i64 st.n) ∧ w = w' := by
  obtain ⟨mb, sv, a1, a2, hb, hm, hq⟩ := h
  obtain ⟨c0, c1, c2, fr⟩ := cells3 hb
  clear hb hm hq
  go_enter Try.func13, Try.ntmps13
  go_wp2_with fail
  go_ret
  exact ⟨rfl, rfl⟩
set_option maxHeartbeats 1600000 in
set_option maxRecDepth 100000 in
theorem remote_Script.calls (w : World) (A : Nat → Prop) (r : Nat) (st : Rem) (h : RemAt w A r st) (A' : Option Addr) (n c : Nat) (xs : List Int) (hc : (Kd.int .i64).C w A' n xs) (hl : n ≤ c) (hn : n * 8 ≤ 140737488351232) :
    Calls Try.prog 10 #[.pointer (some ⟨r, 0, none⟩), .slice A' n c] w fun e w' => e = .returned (.tuple #[]) ∧ RemAt w' (gr A w) r { st with s := xs } ∧ Frm A w w' := by
  obtain ⟨mb, sv, a1, a2, hb, hm, hq⟩ := h
  have HB := Aside0.mk hb
  have HM := Aside0.mk hm
  have HC := Aside0.mk (clone_ints.calls A' n c xs w hc hl hn)
  clear hb hm hq hc hl hn
  go_enter Try.func10, Try.ntmps10
  go_wp2_with fail
  refine HC.out.mono ?_
  rintro e w1 ⟨v, rfl, hR, hB⟩
  have hb1 := blk_below HB.out hB
  obtain ⟨c0, c1, c2, fr⟩ := cells3 hb1
  have HR := Aside0.mk hR
  have HB1 := Aside0.mk hB
  have HB2 := Aside0.mk hb1
  clear hB hb1
  obtain ⟨A2, cc, rfl, _⟩ := Kd.R_reads hR
  clear hR
  go_wp2_with fail
  go_end0
  have hne := MapOf.ne HM.out HB.out
  refine ⟨rfl, ⟨mb, .slice A2 xs.length cc, Or.inl a1, Or.inl a2, by simpa using blk_set HB2.out 1 _, ?_, ?_⟩, ?_⟩
  · exact (MapOf.frm HM.out (Frm.of_new (S := None') HB1.out) (fun x => x.elim)).frm ((Frm.refl (fun i => i = r) _).setCell (Or.inl rfl) _) (fun e => hne e.symm)
  · exact Kd.Q_mono (Q_setc (Kd.Q_lower (Kd.Q_bound (Kd.Q_of_R HR.out)) (Nat.zero_le _)) HB2.out (by decide) 1 _) (fun k hk => Or.inr hk.2.1)
  · exact (Frm.of_new HB1.out).setCell (Or.inl a1) _
/-- A struct lay. -/
def layV (r : Nat) (name b : ByteArray) : Value := .agg #[.pointer (some ⟨r, 0, none⟩), .string name, .string b]
set_option maxHeartbeats 1600000 in
set_option maxRecDepth 100000 in
theorem lay_put.calls (w : World) (A : Nat → Prop) (r : Nat) (st : Rem) (h : RemAt w A r st) (name b : ByteArray) (hn : name.size ≤ 140737488351232) :
    Calls Try.prog 35 #[.agg #[.pointer (some ⟨r, 0, none⟩), .string name, .string b]] w fun e w' => e = .returned (.int .i64 0) ∧ RemAt w' (gr A w) r { st with m := put st.m name b } ∧ Frm A w w' := by
  obtain ⟨mb, sv, a1, a2, hb, hm, hq⟩ := h
  have HB := Aside0.mk hb
  have HM := Aside0.mk hm
  have HQ := Aside0.mk hq
  have HK := Aside0.mk (strOk hn)
  obtain ⟨c0, c1, c2, fr⟩ := cells3 hb
  clear hb hm hq hn
  go_enter Try.func35, Try.ntmps35
  go_wp2_with fail
  clear c0 c1 c2 fr
  refine region_tail 9 (by kernel_rfl) (by kernel_rfl) (fun W => W.heap[w.heap.size]? = some (.cells #[.pointer (some ⟨r, 0, none⟩), .string name, .string b] 75) ∧ W.heap[r]? = some (.cells #[.map (some mb), sv, .int .i64 st.n] 71) ∧ MapOf Try.prog 9 Value.string Value.string W mb st.m ∧ (Kd.int .i64).Q 3 W 0 A sv st.s ∧ Frm A w W)
    ⟨blk_new w _, blk_alloc HB.out _, (HM.out.alloc _).drew, Kd.Q_drew (Kd.Q_alloc HQ.out _), ((Frm.refl A w).alloc _).drew⟩ ?_
  rintro w2 ⟨x2, b2, m2, q2, f2⟩
  obtain ⟨c0, c1, c2, fr⟩ := cells3 b2
  obtain ⟨d0, d1, d2, dr⟩ := cells3 x2
  have B2 := Aside0.mk b2
  have M2 := Aside0.mk m2
  have Q2 := Aside0.mk q2
  have F2 := Aside0.mk f2
  clear b2 x2 m2 q2 f2
  simp only [List.take_succ_cons, List.take_zero, List.drop_succ_cons, List.drop_zero]
  repeat still_step
  refine wpStill_nil ?_
  refine wpList_mapUpdate_of strInj strKeyed w2 rfl _ _ _ 69 9 rfl Try.underlying69 mb st.m rfl M2.out name rfl HK.out b rfl ?_
  rintro w3 m3 f3 z3
  have M3 := Aside0.mk m3
  have F3 := Aside0.mk f3
  clear m3 f3 z3 c0 c1 c2 fr d0 d1 d2 dr
  go_wp2_with fail
  go_ret
  have hne := MapOf.ne M2.out B2.out
  obtain ⟨es, cl, hes, _⟩ := M2.out
  exact ⟨rfl, ⟨mb, sv, Or.inl a1, Or.inl a2, F3.out.keeps B2.out hne, M3.out, Kd.Q_mono (Q_notmap Q2.out hes F3.out) (fun k hk => Or.inl hk)⟩, F2.out.andThen F3.out (fun i e => by rw [e]; exact Or.inl a2)⟩

def Rem.next (st : Rem) : Rem := { st with s := st.s.tail, n := wrap64 (st.n + 1) }
def Rem.fate (st : Rem) : Int := st.s.headD 0
theorem RemAt.bound {w : World} {A : Nat → Prop} {r : Nat} {st : Rem} (h : RemAt w A r st) : RemAt w (fun k => A k ∧ k < w.heap.size) r st := h.mono fun _ hk ha => ⟨ha, hk⟩
/-- The first of a row of numbers, and what is behind it. -/
theorem first_of {w : World} {A : Nat → Prop} {v : Value} {x : Int} {l : List Int} (h : (Kd.int .i64).Q 3 w 0 A v (x :: l)) :
    ∃ g o cap A2 c2, v = .slice (some ⟨g, o, none⟩) (l.length + 1) cap ∧ w.cell? ⟨g, o, none⟩ = some (.int .i64 x) ∧ (∀ W, (Instr.slice 23 (.slice (some ⟨g, o, none⟩) (l.length + 1) cap) (some (.int .i64 1)) none none).run Try.prog W = .ok (.slice A2 l.length c2) W) ∧
      (Kd.int .i64).Q 3 w 0 A (.slice A2 l.length c2) l ∧ g < w.heap.size ∧ ∃ cells, w.heap[g]? = some (.cells cells 3 (0, 0)) := by
  obtain ⟨g, o, cap, rfl, _, hg, cs, hcs⟩ := Kd.Q_form h (Nat.succ_pos _)
  obtain ⟨i0, hi, hz0, hz1, hz2⟩ := info_parts intinfo
  have hc := cut_from (P := Try.prog) 23 3 .i64 Try.underlying23 hi 1 hz1 (some ⟨g, o, none⟩) (l.length + 1) cap 1 (by omega) (by omega)
  have hd := Kd.Q_drop (k := 1) h (by simp)
  have he := (Kd.Q_cell (0 : Int) h 0 (by omega) (by simp)).1
  exact ⟨g, o, cap, _, _, rfl, by simpa [rdOf] using he, fun W => hc W, hd, hg, cs, hcs⟩
/-- What a call comes to, if what it does comes to Post. -/
def CallPost (A : Nat → Prop) (r : Nat) (st : Rem) (w : World) (Post : World → World → Int → Prop) (e : Ending) (w' : World) : Prop :=
  (st.fate = 1 ∧ e = .returned (.int .i64 9) ∧ RemAt w' A r st.next ∧ Frm A w w') ∨
  (st.fate ≠ 1 ∧ ∃ W x y, RemAt W A r st.next ∧ Frm A w W ∧ Post W w' x ∧ y = (if st.fate = 2 then 9 else x) ∧ e = .returned (.int .i64 y))
set_option maxHeartbeats 3200000 in
set_option maxRecDepth 100000 in
theorem remote_call.calls (w : World) (A : Nat → Prop) (r : Nat) (st : Rem) (h : RemAt w A r st) (F : Nat) (fn : Func) (hf : Try.prog.funcs[F]? = some fn) (hname : (fn.name == "runtime.NumGoroutine") = false) (hbody : fn.body.isSome = true) (first captured : Array Value) (Post : World → World → Int → Prop)
    (hdo : ∀ W, RemAt W A r st.next → Frm A w W → Calls Try.prog F (first ++ captured) W fun e w' => ∃ x, e = .returned (.int .i64 x) ∧ Post W w' x) :
    Calls Try.prog 36 #[.pointer (some ⟨r, 0, none⟩), .func (.func F) first captured] w (CallPost A r st w Post) := by
  obtain ⟨mb, sv, a1, a2, hb, hm, hq⟩ := h
  have HB := Aside0.mk hb
  have HM := Aside0.mk hm
  have HQ := Aside0.mk hq
  have HD := Aside0.mk hdo
  have HE := Aside0.mk (enters_ hf hname hbody (first ++ captured))
  clear hb hm hq hdo hf hname hbody
  obtain ⟨m, s, n⟩ := st
  cases s with
  | nil =>
    obtain ⟨sa, sc, rfl, _⟩ := Kd.Q_slice HQ.out
    obtain ⟨c0, c1, c2, fr⟩ := cells3 HB.out
    simp only [List.length_nil] at c1
    go_enter Try.func36, Try.ntmps36
    go_wp2_with fail
    rw [HE.out, Oper.upon_enter]
    refine (HD.out _ ⟨mb, .slice sa 0 sc, a1, a2, by simpa [Rem.next] using blk_set HB.out 2 (.int .i64 (wrap64 (n + 1))), HM.out.frm ((Frm.refl (fun i => i = r) _).setCell (Or.inl rfl) _) (fun e => (HM.out.ne HB.out) e.symm), Q_setc HQ.out HB.out (by decide) 2 _⟩ ((Frm.refl _ _).setCell (Or.inl a1) _)).mono ?_
    rintro e w1 ⟨x, rfl, hp⟩
    have HP := Aside0.mk hp
    clear hp c0 c1 c2 fr
    go_wp2_with fail
    go_ret
    exact Or.inr ⟨by simp [Rem.fate], _, x, _, ⟨mb, .slice sa 0 sc, a1, a2, by simpa [Rem.next] using blk_set HB.out 2 (.int .i64 (wrap64 (n + 1))), HM.out.frm ((Frm.refl (fun i => i = r) _).setCell (Or.inl rfl) _) (fun e => (HM.out.ne HB.out) e.symm), Q_setc HQ.out HB.out (by decide) 2 _⟩, (Frm.refl _ _).setCell (Or.inl a1) _, HP.out, by simp [Rem.fate], rfl⟩
  | cons f l =>
    obtain ⟨g, o, cap, A2, c2', rfl, hcell, hcut, hq2, hg, cs, hcs⟩ := first_of HQ.out
    obtain ⟨c0, c1, c2, fr⟩ := cells3 HB.out
    go_enter Try.func36, Try.ntmps36
    go_wp2_with fail
    have hne : ∀ u, (w.setCell ⟨r, 2, none⟩ u).cell? ⟨g, o, none⟩ = some (.int .i64 f) := fun u => by
      have hgr : g ≠ r := by rintro rfl; rw [hcs] at HB; have := HB.out; simp at this
      exact (World.cell?_of_block (w := w) (a := ⟨g, o, none⟩) (Below.heap_setCell w ⟨r, 2, none⟩ u g hgr)).trans hcell
    refine region_tail 15 (by kernel_rfl) (by kernel_rfl) (fun W => W.heap[r]? = some (.cells #[.map (some mb), .slice (some ⟨g, o, none⟩) (l.length + 1) cap, .int .i64 (wrap64 (n + 1))] 71) ∧ W.cell? ⟨g, o, none⟩ = some (.int .i64 f) ∧ MapOf Try.prog 9 Value.string Value.string W mb m ∧ (Kd.int .i64).Q 3 W 0 A (.slice A2 l.length c2') l ∧ Frm A w W)
      ⟨blk_drew (by simpa using blk_set HB.out 2 (.int .i64 (wrap64 (n + 1)))), hne _, (HM.out.frm ((Frm.refl (fun i => i = r) _).setCell (Or.inl rfl) _) (fun e => (HM.out.ne HB.out) e.symm)).drew, Kd.Q_drew (Q_setc hq2 HB.out (by decide) 2 _), ((Frm.refl _ _).setCell (Or.inl a1) _).drew⟩ ?_
    clear c0 c1 c2 fr hne hq2 hcs hcell
    rintro w2 ⟨b2, hcell, m2, q2, f2⟩
    obtain ⟨c0, c1, c2, fr⟩ := cells3 b2
    have B2 := Aside0.mk b2
    have M2 := Aside0.mk m2
    have Q2 := Aside0.mk q2
    have F2 := Aside0.mk f2
    clear b2 m2 q2 f2
    have hlt : decide ((0 : Int) < (l.length : Int) + 1) = true := decide_eq_true (by omega)
    simp only [List.take_succ_cons, List.take_zero, List.drop_succ_cons, List.drop_zero]
    repeat still_step
    refine wpStill_nil ?_
    have hat : RemAt (w2.setCell ⟨r, 1, none⟩ (.slice A2 l.length c2')) A r (Rem.next ⟨m, f :: l, n⟩) :=
      ⟨mb, .slice A2 l.length c2', a1, a2, by simpa [Rem.next] using blk_set B2.out 1 (.slice A2 l.length c2'), M2.out.frm ((Frm.refl (fun i => i = r) _).setCell (Or.inl rfl) _) (fun e => (M2.out.ne B2.out) e.symm), Q_setc Q2.out B2.out (by decide) 1 _⟩
    have HA := Aside0.mk hat
    have HF := Aside0.mk (F2.out.setCell (p := ⟨r, 1, none⟩) (Or.inl a1) (.slice A2 l.length c2'))
    clear hat hlt hcell hcut
    by_cases hf1 : f = 1
    · subst hf1
      go_wp2_with fail
      go_ret
      exact Or.inl ⟨rfl, rfl, HA.out, HF.out⟩
    · have hb1 : (f == 1) = false := beq_eq_false_iff_ne.2 hf1
      go_wp2_with fail
      rw [HE.out, Oper.upon_enter]
      refine (HD.out _ HA.out HF.out).mono ?_
      rintro e w1 ⟨x, rfl, hp⟩
      have HP := Aside0.mk hp
      clear hp c0 c1 c2 fr
      by_cases hf2 : f = 2
      · subst hf2
        go_wp2_with fail
        go_ret
        exact Or.inr ⟨by simp [Rem.fate], _, x, _, HA.out, HF.out, HP.out, by simp [Rem.fate], rfl⟩
      · have hb2 : (f == 2) = false := beq_eq_false_iff_ne.2 hf2
        go_wp2_with fail
        go_ret
        exact Or.inr ⟨by simp [Rem.fate, hf1], _, x, _, HA.out, HF.out, HP.out, by simp [Rem.fate, hf2], rfl⟩

theorem gr_mono {A : Nat → Prop} {w W : World} (hz : w.heap.size ≤ W.heap.size) : ∀ k, gr A W k → gr A w k := fun k hk => hk.imp id (fun h => Nat.le_trans hz h)
def Rem.put (st : Rem) (name b : ByteArray) : Rem × Int := if st.fate = 1 then (st.next, 9) else ({ st.next with m := Thw.put st.m name b }, if st.fate = 2 then 9 else 0)
set_option maxHeartbeats 1600000 in
set_option maxRecDepth 100000 in
theorem remote_Put.calls (w : World) (A : Nat → Prop) (r : Nat) (st : Rem) (h : RemAt w A r st) (name b : ByteArray) (hn : name.size ≤ 140737488351232) :
    Calls Try.prog 11 #[.pointer (some ⟨r, 0, none⟩), .string name, .string b] w fun e w' => e = .returned (.int .i64 (st.put name b).2) ∧ RemAt w' (gr A w) r (st.put name b).1 ∧ Frm A w w' := by
  have HC := Aside0.mk (remote_call.calls w A r st h 35 _ Try.func35 (by kernel_rfl) (by kernel_rfl) #[.agg #[.pointer (some ⟨r, 0, none⟩), .string name, .string b]] #[]
    (fun W w' x => x = 0 ∧ RemAt w' (gr A W) r { st.next with m := Thw.put st.m name b } ∧ Frm A W w')
    (fun W hW hF => (lay_put.calls W A r st.next hW name b hn).mono fun e w' ⟨he, h1, h2⟩ => ⟨0, he, rfl, h1, h2⟩))
  clear h hn
  go_enter Try.func11, Try.ntmps11
  go_wp2_with fail
  refine HC.out.mono ?_
  rintro e w1 (⟨h1, rfl, h2, h3⟩ | ⟨h1, W, x, y, h2, h3, ⟨rfl, h4, h5⟩, hy, rfl⟩)
  · have A1 := Aside0.mk h1
    have A2 := Aside0.mk h2
    have A3 := Aside0.mk h3
    clear h1 h2 h3
    go_wp2_with fail
    go_ret
    refine ⟨by simp [Rem.put, A1.out], ?_, A3.out⟩
    have : (st.put name b).1 = st.next := by simp [Rem.put, A1.out]
    rw [this]
    exact A2.out.mono fun k _ hk => Or.inl hk
  · have A1 := Aside0.mk h1
    have A3 := Aside0.mk h3
    have A4 := Aside0.mk h4
    have A5 := Aside0.mk h5
    have A6 := Aside0.mk hy
    clear h1 h2 h3 h4 h5 hy
    go_wp2_with fail
    go_ret
    refine ⟨by simp [Rem.put, A1.out, A6.out], ?_, A3.out.andThen A5.out (fun i hi => Or.inl hi)⟩
    have : (st.put name b).1 = { st.next with m := Thw.put st.m name b } := by simp [Rem.put, A1.out]
    rw [this]
    exact A4.out.mono fun k _ hk => gr_mono A3.out.size k hk

/-- a, if there is one; else b. -/
def ifAny {α β : Type} (o : Option α) (a b : β) : β := match o with | some _ => a | none => b
theorem zeroStr (w : World) : (zeroValue 9).run Try.prog w = .ok (.string ⟨#[]⟩) w := by kernel_rfl
set_option maxHeartbeats 1600000 in
set_option maxRecDepth 100000 in
theorem lay_putNew.calls (w : World) (A : Nat → Prop) (r : Nat) (st : Rem) (h : RemAt w A r st) (name b : ByteArray) (hn : name.size ≤ 140737488351232) :
    Calls Try.prog 38 #[.agg #[.pointer (some ⟨r, 0, none⟩), .string name, .string b]] w fun e w' => e = .returned (.int .i64 (ifAny (look st.m name) 7 0)) ∧ RemAt w' (gr A w) r (ifAny (look st.m name) st { st with m := put st.m name b }) ∧ Frm A w w' := by
  have h0 := h
  obtain ⟨mb, sv, a1, a2, hb, hm, hq⟩ := h
  have HB := Aside0.mk hb
  have HM := Aside0.mk hm
  have HA := Aside0.mk h0
  have HN := Aside0.mk hn
  clear hb hm hq hn h0
  go_enter Try.func38, Try.ntmps38
  go_wp2_with fail
  refine region_still (by kernel_rfl) (by kernel_rfl) (fun W => W.heap[w.heap.size]? = some (.cells #[.pointer (some ⟨r, 0, none⟩), .string name, .string b] 75) ∧ W.heap[r]? = some (.cells #[.map (some mb), sv, .int .i64 st.n] 71) ∧ MapOf Try.prog 9 Value.string Value.string W mb st.m ∧ RemAt W A r st ∧ Frm A w W)
    ⟨blk_new w _, blk_alloc HB.out _, (HM.out.alloc _).drew, HA.out.frm (S := None') ((Frm.refl _ w).alloc _).drew (fun _ _ x => x), ((Frm.refl A w).alloc _).drew⟩ ?_
  rintro w2 ⟨x2, b2, m2, q2, f2⟩
  obtain ⟨c0, c1, c2, fr⟩ := cells3 b2
  obtain ⟨d0, d1, d2, dr⟩ := cells3 x2
  have A2 := Aside0.mk q2
  have F2 := Aside0.mk f2
  cases hl : look st.m name with
  | none =>
    have hlk := MapOf.absent strInj strKeyed m2 Try.underlying69 (strOk HN.out) (zeroStr w2) hl
    have HL := Aside0.mk hl
    clear b2 x2 m2 q2 f2 hl
    repeat still_step
    refine wpStill_nil ?_
    go_wp2_with fail
    refine (lay_put.calls w2 A r st A2.out name b HN.out).mono ?_
    rintro e w3 ⟨rfl, h3, f3⟩
    have A3 := Aside0.mk h3
    have F3 := Aside0.mk f3
    clear h3 f3 hlk c0 c1 c2 fr d0 d1 d2 dr
    go_wp2_with fail
    go_ret
    refine ⟨by rw [HL.out]; rfl, ?_, F2.out.andThen F3.out (fun i hi => Or.inl hi)⟩
    rw [HL.out]
    exact A3.out.mono fun k _ hk => gr_mono F2.out.size k hk
  | some v =>
    have hlk := MapOf.found strInj strKeyed m2 Try.underlying69 (strOk HN.out) (zeroStr w2) hl
    have HL := Aside0.mk hl
    clear b2 x2 m2 q2 f2 hl
    repeat still_step
    refine wpStill_nil ?_
    go_wp2_with fail
    go_ret
    refine ⟨by rw [HL.out]; rfl, ?_, F2.out⟩
    rw [HL.out]
    exact A2.out.mono fun k _ hk => Or.inl hk

def Rem.putNew (st : Rem) (name b : ByteArray) : Rem × Int := if st.fate = 1 then (st.next, 9) else (ifAny (look st.m name) st.next { st.next with m := Thw.put st.m name b }, if st.fate = 2 then 9 else ifAny (look st.m name) 7 0)
set_option maxHeartbeats 1600000 in
set_option maxRecDepth 100000 in
theorem remote_PutNew.calls (w : World) (A : Nat → Prop) (r : Nat) (st : Rem) (h : RemAt w A r st) (name b : ByteArray) (hn : name.size ≤ 140737488351232) :
    Calls Try.prog 14 #[.pointer (some ⟨r, 0, none⟩), .string name, .string b] w fun e w' => e = .returned (.int .i64 (st.putNew name b).2) ∧ RemAt w' (gr A w) r (st.putNew name b).1 ∧ Frm A w w' := by
  have HC := Aside0.mk (remote_call.calls w A r st h 38 _ Try.func38 (by kernel_rfl) (by kernel_rfl) #[.agg #[.pointer (some ⟨r, 0, none⟩), .string name, .string b]] #[]
    (fun W w' x => x = (ifAny (look st.m name) 7 0) ∧ RemAt w' (gr A W) r (ifAny (look st.m name) st.next { st.next with m := Thw.put st.m name b }) ∧ Frm A W w')
    (fun W hW hF => (lay_putNew.calls W A r st.next hW name b hn).mono fun e w' ⟨he, h1, h2⟩ => ⟨_, he, rfl, h1, h2⟩))
  clear h hn
  go_enter Try.func14, Try.ntmps14
  go_wp2_with fail
  refine HC.out.mono ?_
  rintro e w1 (⟨h1, rfl, h2, h3⟩ | ⟨h1, W, x, y, h2, h3, ⟨hx, h4, h5⟩, hy, rfl⟩)
  · have A1 := Aside0.mk h1
    have A2 := Aside0.mk h2
    have A3 := Aside0.mk h3
    clear h1 h2 h3
    go_wp2_with fail
    go_ret
    refine ⟨by simp [Rem.putNew, A1.out], ?_, A3.out⟩
    have : (st.putNew name b).1 = st.next := by simp [Rem.putNew, A1.out]
    rw [this]
    exact A2.out.mono fun k _ hk => Or.inl hk
  · rw [hx] at hy
    have A1 := Aside0.mk h1
    have A3 := Aside0.mk h3
    have A4 := Aside0.mk h4
    have A5 := Aside0.mk h5
    have A6 := Aside0.mk hy
    clear h1 h2 h3 h4 h5 hy hx
    go_wp2_with fail
    go_ret
    refine ⟨by simp [Rem.putNew, A1.out, A6.out], ?_, A3.out.andThen A5.out (fun i hi => Or.inl hi)⟩
    have : (st.putNew name b).1 = ifAny (look st.m name) st.next { st.next with m := Thw.put st.m name b } := by simp [Rem.putNew, A1.out]
    rw [this]
    exact A4.out.mono fun k _ hk => gr_mono A3.out.size k hk

def Rem.get (st : Rem) (name : ByteArray) : Rem × ByteArray × Int := if st.fate = 1 ∨ st.fate = 2 then (st.next, ⟨#[]⟩, 9) else match look st.m name with
  | none => (st.next, ⟨#[]⟩, 5)
  | some b => (st.next, b, 0)
set_option maxHeartbeats 1600000 in
set_option maxRecDepth 100000 in
/-- What Get does: pr, pn, pb: the boxes that it holds. -/
theorem get_do.calls (w : World) (A : Nat → Prop) (r : Nat) (st : Rem) (h : RemAt w A r st) (name b0 : ByteArray) (hn : name.size ≤ 140737488351232) (pr pn pb : Nat)
    (hr : w.heap[pr]? = some (.cells #[.pointer (some ⟨r, 0, none⟩)] 25)) (hnm : w.heap[pn]? = some (.cells #[.string name] 9)) (hb : w.heap[pb]? = some (.cells #[.string b0] 9)) (ha : ¬ A pb) :
    Calls Try.prog 37 #[.pointer (some ⟨pr, 0, none⟩), .pointer (some ⟨pn, 0, none⟩), .pointer (some ⟨pb, 0, none⟩)] w fun e w' =>
      e = .returned (.int .i64 (ifAny (look st.m name) 0 5)) ∧ RemAt w' A r st ∧ w'.heap[pb]? = some (.cells #[.string ((look st.m name).getD b0)] 9) ∧ Frm (fun k => k = pb) w w' := by
  have h0 := h
  obtain ⟨mb, sv, a1, a2, hbk, hm, hq⟩ := h
  have HB := Aside0.mk hbk
  have HM := Aside0.mk hm
  have HA := Aside0.mk h0
  have HN := Aside0.mk hn
  have HR := Aside0.mk hr
  have HNM := Aside0.mk hnm
  have HPB := Aside0.mk hb
  clear hbk hm hq hn h0 hr hnm hb
  go_enter Try.func37, Try.ntmps37
  go_wp2_with fail
  refine region_still (by kernel_rfl) (by kernel_rfl) (fun W => W.heap[pr]? = some (.cells #[.pointer (some ⟨r, 0, none⟩)] 25) ∧ W.heap[pn]? = some (.cells #[.string name] 9) ∧ W.heap[pb]? = some (.cells #[.string b0] 9) ∧ W.heap[r]? = some (.cells #[.map (some mb), sv, .int .i64 st.n] 71) ∧ MapOf Try.prog 9 Value.string Value.string W mb st.m ∧ RemAt W A r st ∧ Frm (fun k => k = pb) w W)
    ⟨HR.out, HNM.out, HPB.out, HB.out, HM.out.drew, HA.out.frm (S := None') (Frm.refl _ w).drew (fun _ _ x => x), (Frm.refl _ w).drew⟩ ?_
  rintro w2 ⟨x2, y2, z2, b2, m2, q2, f2⟩
  obtain ⟨c0, c1, c2, fr⟩ := cells3 b2
  obtain ⟨d0, dr⟩ := cells1 x2
  obtain ⟨e0, er⟩ := cells1 y2
  obtain ⟨g0, gr'⟩ := cells1 z2
  have A2 := Aside0.mk q2
  have F2 := Aside0.mk f2
  have Z2 := Aside0.mk z2
  cases hl : look st.m name with
  | none =>
    have hlk := MapOf.absent strInj strKeyed m2 Try.underlying69 (strOk HN.out) (zeroStr w2) hl
    have HL := Aside0.mk hl
    clear b2 x2 y2 z2 m2 q2 f2 hl
    repeat still_step
    refine wpStill_nil ?_
    go_wp2_with fail
    go_ret
    exact ⟨by rw [HL.out]; rfl, A2.out, by simpa [HL.out] using Z2.out, F2.out⟩
  | some v =>
    have hlk := MapOf.found strInj strKeyed m2 Try.underlying69 (strOk HN.out) (zeroStr w2) hl
    have HL := Aside0.mk hl
    clear b2 x2 y2 z2 m2 q2 f2 hl
    repeat still_step
    refine wpStill_nil ?_
    go_wp2_with fail
    go_ret
    exact ⟨by rw [HL.out]; rfl, A2.out.frm ((Frm.refl (fun k => k = pb) _).setCell (Or.inl rfl) _) (fun k hk e => ha (e ▸ hk)), by simpa [HL.out] using blk_set Z2.out 0 _, F2.out.setCell (Or.inl rfl) _⟩

theorem RemAt.alloc {w : World} {A : Nat → Prop} {r : Nat} {st : Rem} (h : RemAt w A r st) (o : Obj) : RemAt (w.alloc o) A r st := h.frm (S := None') ((Frm.refl _ w).alloc o) (fun _ _ x => x)
set_option maxHeartbeats 3200000 in
set_option maxRecDepth 100000 in
theorem remote_Get.calls (w : World) (A : Nat → Prop) (r : Nat) (st : Rem) (h : RemAt w A r st) (name : ByteArray) (hn : name.size ≤ 140737488351232) :
    Calls Try.prog 12 #[.pointer (some ⟨r, 0, none⟩), .string name] w fun e w' => e = .returned (.tuple #[.string (st.get name).2.1, .int .i64 (st.get name).2.2]) ∧ RemAt w' (gr A w) r (st.get name).1 ∧ Frm A w w' := by
  have H0 := Aside0.mk h.bound
  have HN := Aside0.mk hn
  clear h hn
  go_enter Try.func12, Try.ntmps12
  go_wp2_with fail
  refine rebase (fun W => RemAt W (fun k => A k ∧ k < w.heap.size) r st ∧ Frm (fun k => A k ∧ k < w.heap.size) w W ∧ W.heap[w.heap.size]? = some (.cells #[.pointer (some ⟨r, 0, none⟩)] 25) ∧ W.heap[w.heap.size + 1]? = some (.cells #[.string name] 9) ∧ W.heap[w.heap.size + 1 + 1]? = some (.cells #[.string ⟨#[]⟩] 9))
    ⟨((H0.out.alloc _).alloc _).alloc _, (((Frm.refl _ _).alloc _).alloc _).alloc _, blk_alloc (blk_alloc (blk_new _ _) _) _, by simpa using blk_alloc (blk_new (w.alloc (.cells #[.pointer (some ⟨r, 0, none⟩)] 25)) _) _, by simpa using blk_new ((w.alloc (.cells #[.pointer (some ⟨r, 0, none⟩)] 25)).alloc (.cells #[.string name] 9)) _⟩ ?_
  rintro w1 ⟨h1, f1, p1, p2, p3⟩
  have n2 : ¬ (A (w.heap.size + 1 + 1) ∧ w.heap.size + 1 + 1 < w.heap.size) := fun x => by omega
  have n1 : ¬ (A (w.heap.size + 1) ∧ w.heap.size + 1 < w.heap.size) := fun x => by omega
  have n0 : ¬ (A w.heap.size ∧ w.heap.size < w.heap.size) := fun x => by omega
  have HC := Aside0.mk (remote_call.calls w1 (fun k => A k ∧ k < w.heap.size) r st h1 37 _ Try.func37 (by kernel_rfl) (by kernel_rfl) #[] #[.pointer (some ⟨w.heap.size, 0, none⟩), .pointer (some ⟨w.heap.size + 1, 0, none⟩), .pointer (some ⟨w.heap.size + 1 + 1, 0, none⟩)]
    (fun W w' x => x = ifAny (look st.m name) 0 5 ∧ RemAt w' (fun k => A k ∧ k < w.heap.size) r st.next ∧ w'.heap[w.heap.size + 1 + 1]? = some (.cells #[.string ((look st.m name).getD ⟨#[]⟩)] 9) ∧ Frm (fun k => k = w.heap.size + 1 + 1) W w')
    (fun W hW hF => (get_do.calls W _ r st.next hW name ⟨#[]⟩ HN.out w.heap.size (w.heap.size + 1) (w.heap.size + 1 + 1) (hF.keeps p1 n0) (hF.keeps p2 n1) (hF.keeps p3 n2) n2).mono fun e w' ⟨he, h1, h2, h3⟩ => ⟨_, he, rfl, h1, h2, h3⟩))
  refine HC.out.mono ?_
  have F1 := Aside0.mk f1
  have P3 := Aside0.mk p3
  clear h1 f1 p1 p2 p3 n0 n1 n2
  rintro e w2 (⟨g1, rfl, g2, g3⟩ | ⟨g1, W, x, y, g2, g3, ⟨gx, g4, g5, g6⟩, gy, rfl⟩)
  · have A1 := Aside0.mk g1
    have A2 := Aside0.mk g2
    have A3 := Aside0.mk g3
    clear g1 g2 g3
    go_wp2_with fail
    go_ret2
    have e1 : st.get name = (st.next, ⟨#[]⟩, 9) := by simp [Rem.get, A1.out]
    rw [e1]
    exact ⟨rfl, A2.out.mono fun k _ hk => Or.inl hk.1, (F1.out.andThen A3.out (fun i hi => Or.inl hi)).mono fun k _ hk => hk.1⟩
  · have A1 := Aside0.mk g1
    have A4 := Aside0.mk g4
    have A5 := Aside0.mk g5
    have A6 := Aside0.mk ((F1.out.andThen g3 (fun i hi => Or.inl hi)).andThen g6 (fun i hi => Or.inr (by omega)))
    obtain ⟨q0, qr⟩ := cells1 g5
    rw [gx] at gy
    clear g1 g2 g3 g4 g5 g6 gx
    by_cases hf2 : st.fate = 2
    · rw [if_pos hf2] at gy
      subst gy
      have HF := Aside0.mk hf2
      clear hf2
      go_wp2_with fail
      go_ret2
      have e1 : st.get name = (st.next, ⟨#[]⟩, 9) := by simp [Rem.get, HF.out]
      rw [e1]
      exact ⟨rfl, A4.out.mono fun k _ hk => Or.inl hk.1, A6.out.mono fun k _ hk => hk.1⟩
    · rw [if_neg hf2] at gy
      cases hl : look st.m name with
      | none =>
        rw [hl] at gy
        obtain rfl : y = 5 := gy
        have e1 := Aside0.mk (show st.get name = (st.next, ⟨#[]⟩, 5) by simp [Rem.get, A1.out, hf2, hl])
        clear hl hf2
        go_wp2_with fail
        go_ret2
        rw [e1.out]
        exact ⟨rfl, A4.out.mono fun k _ hk => Or.inl hk.1, A6.out.mono fun k _ hk => hk.1⟩
      | some v =>
        rw [hl] at gy
        obtain rfl : y = 0 := gy
        have e1 := Aside0.mk (show st.get name = (st.next, v, 0) by simp [Rem.get, A1.out, hf2, hl])
        rw [hl] at q0
        replace q0 : w2.cell? ⟨w.heap.size + 1 + 1, 0, none⟩ = some (.string v) := q0
        clear hl hf2
        go_wp2_with fail
        go_ret2
        rw [e1.out]
        exact ⟨rfl, A4.out.mono fun k _ hk => Or.inl hk.1, A6.out.mono fun k _ hk => hk.1⟩
end Go.Proofs.Ytnkadkahdnnbbaa.Thw
