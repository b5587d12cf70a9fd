/- Layer 12: Read, walked: a panic that is recovered. -/
import Derived.Test.YtgampcbjmdgciaaDoorEv12b
namespace Go.Proofs.YtgampcbjmdgciaaDoor.Thw
open Go Go.RowKit Go.Proofs.YtgampcbjmdgciaaDoor.Print Go.Proofs.YtgampcbjmdgciaaDoorW.PrintWords Go.Proofs.YtgampcbjmdgciaaDoorW.PrintLast Go.Proofs.YtgampcbjmdgciaaDoorW.PrintMore
set_option linter.unusedVariables false
set_option linter.unusedSimpArgs false
theorem cells2m {w : World} {s : Nat} {v0 v1 : Value} {t : TypeId} (h : w.heap[s]? = some (.cells #[v0, v1] t)) : w.cell? ⟨s, 0, none⟩ = some v0 ∧ w.cell? ⟨s, 1, none⟩ = some v1 ∧ ∀ i, w.frozen? ⟨s, i, none⟩ = false := by
  refine ⟨?_, ?_, fun i => ?_⟩ <;> simp [World.cell?, World.frozen?, h]
theorem ta_nil (w : World) : (Instr.typeAssert .nilIface 20 26 true).run Tryd.prog w = .ok (.tuple #[.int .i64 0, .bool false]) w := by kernel_rfl
theorem ta_err (w : World) : (Instr.typeAssert formP 20 26 true).run Tryd.prog w = .ok (.tuple #[.int .i64 2, .bool true]) w := by kernel_rfl
theorem read1_idle (m e : Nat) (w : World) :
    CallsD Tryd.prog 28 #[.pointer (some ⟨m, 0, none⟩), .pointer (some ⟨e, 0, none⟩)] .returning w fun e u' w' => e = .returned (.tuple #[]) ∧ u' = .returning ∧ w' = w := by
  refine callsD_of_wpS Tryd.func28 rfl fun c₀ cs hu => ?_
  apply wpS_seq
  apply wpS_region
  simp [wpOpsS, go_sem, recoverD, hu, Tryd.ntmps28, Exit.thenS, ta_nil, ta_err]
  apply wpS_seq
  apply wpS_region
  simp [wpOpsS, go_sem, Exit.thenS]
  refine wpS_cond (t := false) (by simp [Act.eval, Array.replicate]) ?_
  simp only [Bool.false_eq_true, if_false]
  refine wpS_of_wp (wp_skip ?_)
  cases c₀
  simp_all [bodyPostS, results, Tryd.results28]
theorem read1_panicking (m e : Nat) (older : List PanicEntry) (w : World) (v0 v1 v2 : Value) (hm : w.heap[m]? = some (.cells #[v0, v1] 24)) (he : w.heap[e]? = some (.cells #[v2] 26)) :
    CallsD Tryd.prog 28 #[.pointer (some ⟨m, 0, none⟩), .pointer (some ⟨e, 0, none⟩)] (.panicking ({ v := formP, recovered := false } :: older)) w fun en u' w' => en = .returned (.tuple #[]) ∧ u' = .panicking ({ v := formP, recovered := true } :: older) ∧ w' = ((w.setCell ⟨m, 0, none⟩ (.int .i64 0)).setCell ⟨m, 1, none⟩ (.slice none 0 0)).setCell ⟨e, 0, none⟩ (.int .i64 2) := by
  obtain ⟨c0, c1, fm⟩ := cells2m hm
  obtain ⟨c2, fe⟩ := cells1' he
  refine callsD_of_wpS Tryd.func28 rfl fun c₀ cs hu => ?_
  apply wpS_seq
  apply wpS_region
  simp [wpOpsS, go_sem, recoverD, hu, Tryd.ntmps28, Exit.thenS, ta_nil, ta_err]
  apply wpS_seq
  apply wpS_region
  simp [wpOpsS, go_sem, Exit.thenS]
  refine wpS_cond (t := true) (by simp [Act.eval, Array.replicate]) ?_
  simp only [if_true]
  have hme : m ≠ e := fun h => by rw [h, he] at hm; cases hm
  have hm1 : (w.setCell ⟨m, 0, none⟩ (.int .i64 0)).heap[m]? = some (.cells #[.int .i64 0, v1] 24) := by simpa using blk_set hm 0 (.int .i64 0)
  obtain ⟨_, c1', fm'⟩ := cells2m hm1
  have he1 : ((w.setCell ⟨m, 0, none⟩ (.int .i64 0)).setCell ⟨m, 1, none⟩ (.slice none 0 0)).heap[e]? = some (.cells #[v2] 26) := (Below.heap_setCell _ _ _ _ (fun h => hme h.symm)).trans ((Below.heap_setCell _ _ _ _ (fun h => hme h.symm)).trans he)
  obtain ⟨c2', fe'⟩ := cells1' he1
  refine wpS_of_wp ?_
  simp only [Array.replicate_succ, Array.replicate_zero, List.push_toArray, List.append_toArray, List.nil_append, List.cons_append, List.setIfInBounds_toArray, List.set_cons_zero, List.set_cons_succ, List.append_assoc]
  clear hm he hm1 he1 hu
  go_wp2_with fail
  cases c₀
  simp [bodyPostS, results, Tryd.results28]
theorem run_loadInt {P : Program} {t : TypeId} {w : World} {b : Nat} {v : Value} {k : IntKind} (hu : P.underlying t = some (.int k)) (hb : w.cell? ⟨b, 0, none⟩ = some v) : (loadVar t ⟨b, 0, none⟩).run P w = .ok v w := by
  have hagg : (isAgg t).run P w = .ok false w := by
    unfold isAgg
    rw [Sem.run_bind, run_underlying hu w]
    rfl
  simp [loadVar, Sem.run_bind, hagg, hb]
theorem read_results {W : World} {tmps : Array Value} {m e : Nat} {a b c : Value} (hm : W.heap[m]? = some (.cells #[a, b] 24)) (he : W.heap[e]? = some (.cells #[c] 26)) (h2 : tmps.getD 2 undef = .pointer (some ⟨m, 0, none⟩)) (h3 : tmps.getD 3 undef = .pointer (some ⟨e, 0, none⟩)) :
    (results Tryd.f11 tmps).run Tryd.prog W = .ok (.tuple #[.agg #[a, b], c]) W := by
  have h2' : tmps[2]?.getD undef = .pointer (some ⟨m, 0, none⟩) := by simpa using h2
  have h3' : tmps[3]?.getD undef = .pointer (some ⟨e, 0, none⟩) := by simpa using h3
  simp [results, Tryd.results11, h2', h3', asAddr, run_loadInt Tryd.underlying26 (cells1' he).1, run_loadVar_row W m 24 24 #[a, b] (0, 0) _ hm Tryd.underlying24 rfl (by kernel_rfl)]
abbrev rdDefer (m e : Nat) : Deferred := { target := .fn (.func 28) #[.pointer (some ⟨m, 0, none⟩), .pointer (some ⟨e, 0, none⟩)], args := #[] }
theorem read_leave_ok {W : World} {tmps : Array Value} {m e : Nat} {a b c : Value} {R : Ending → World → Prop} (hm : W.heap[m]? = some (.cells #[a, b] 24)) (he : W.heap[e]? = some (.cells #[c] 26)) (h2 : tmps.getD 2 undef = .pointer (some ⟨m, 0, none⟩)) (h3 : tmps.getD 3 undef = .pointer (some ⟨e, 0, none⟩))
    (hR : R (.returned (.tuple #[.agg #[a, b], c])) W) : Leaves Tryd.prog Tryd.f11 tmps R [rdDefer m e] .returning W := by
  refine leaves_cons (f := 28) (args := #[.pointer (some ⟨m, 0, none⟩), .pointer (some ⟨e, 0, none⟩)]) (by simp) (by simp [go_sem]) ?_
  refine (read1_idle m e W).mono ?_
  rintro en u' w'' ⟨rfl, rfl, rfl⟩
  have h := read_results hm he h2 h3
  simp [Leaves, settle, h, go_sem]
  exact hR
theorem read_leave_panic {W : World} {tmps : Array Value} {m e : Nat} {a b c : Value} {R : Ending → World → Prop} (hm : W.heap[m]? = some (.cells #[a, b] 24)) (he : W.heap[e]? = some (.cells #[c] 26)) (h2 : tmps.getD 2 undef = .pointer (some ⟨m, 0, none⟩)) (h3 : tmps.getD 3 undef = .pointer (some ⟨e, 0, none⟩))
    (hR : R (.returned (.tuple #[.agg #[.int .i64 0, .slice none 0 0], .int .i64 2])) (((W.setCell ⟨m, 0, none⟩ (.int .i64 0)).setCell ⟨m, 1, none⟩ (.slice none 0 0)).setCell ⟨e, 0, none⟩ (.int .i64 2))) : Leaves Tryd.prog Tryd.f11 tmps R [rdDefer m e] (.panicking [{ v := formP, recovered := false }]) W := by
  refine leaves_cons (f := 28) (args := #[.pointer (some ⟨m, 0, none⟩), .pointer (some ⟨e, 0, none⟩)]) (by simp) (by simp [go_sem]) ?_
  refine (read1_panicking m e [] W a b c hm he).mono ?_
  rintro en u' w'' ⟨rfl, rfl, rfl⟩
  have hme : m ≠ e := fun h => by rw [h, he] at hm; cases hm
  have hm1 : (W.setCell ⟨m, 0, none⟩ (.int .i64 0)).heap[m]? = some (.cells #[.int .i64 0, b] 24) := by simpa using blk_set hm 0 (.int .i64 0)
  have hm2 : ((W.setCell ⟨m, 0, none⟩ (.int .i64 0)).setCell ⟨m, 1, none⟩ (.slice none 0 0)).heap[m]? = some (.cells #[.int .i64 0, .slice none 0 0] 24) := by simpa using blk_set hm1 1 (.slice none 0 0)
  have hm3 : (((W.setCell ⟨m, 0, none⟩ (.int .i64 0)).setCell ⟨m, 1, none⟩ (.slice none 0 0)).setCell ⟨e, 0, none⟩ (.int .i64 2)).heap[m]? = some (.cells #[.int .i64 0, .slice none 0 0] 24) := (Below.heap_setCell _ _ _ _ hme).trans hm2
  have he1 : ((W.setCell ⟨m, 0, none⟩ (.int .i64 0)).setCell ⟨m, 1, none⟩ (.slice none 0 0)).heap[e]? = some (.cells #[c] 26) := (Below.heap_setCell _ _ _ _ (fun h => hme h.symm)).trans ((Below.heap_setCell _ _ _ _ (fun h => hme h.symm)).trans he)
  have he2 : (((W.setCell ⟨m, 0, none⟩ (.int .i64 0)).setCell ⟨m, 1, none⟩ (.slice none 0 0)).setCell ⟨e, 0, none⟩ (.int .i64 2)).heap[e]? = some (.cells #[.int .i64 2] 26) := by simpa using blk_set he1 0 (.int .i64 2)
  have h := read_results hm3 he2 h2 h3
  simp [Leaves, settle, h, go_sem]
  exact hR
/-- The behaviour of Read, in plain words. -/
def rightS (last : Int) : List S46 → Bool
  | [] => true
  | x :: l => !(decide (x.f0 ≤ last) || decide (999999 < x.f0) || decide (x.f1 < 0) || decide (1048576 < x.f1)) && rightS x.f0 l
def rightB (v : Int) (l : List S46) : Bool := rightS (-1) l && decide (1 ≤ v) && decide (v ≤ 999999) && decide (l.length ≤ 200)
def mkSg (p : Nat × Nat × Nat) : S46 := ⟨(p.1 : Nat), (p.2.1 : Nat), (p.2.2 : Nat)⟩
def readR (b : Bs) : Option (Nat × List (Nat × Nat × Nat)) × Int :=
  if (openS b).2 = true then
    match (tk 999999 (openS b).1).bind fun a => (tk 200 a.2).bind fun k => (segsN k.1 k.2).bind fun p => if p.2 = [] ∧ rightB (a.1 : Nat) (p.1.map mkSg) = true then some (a.1, p.1) else none with
    | some r => (some r, 0)
    | none => (none, 2)
  else (none, 4)
def ReadPost (b : Bs) (w : World) (e : Ending) (w' : World) : Prop :=
  Below w.heap.size w w' ∧ ((∃ v l A c, readR b = (some (v, l), 0) ∧ e = .returned (.tuple #[.agg #[.int .i64 (v : Nat), .slice A l.length c], .int .i64 0]) ∧ Kd.R k46 46 w' w.heap.size (fun _ => True) (.slice A l.length c) (l.map mkSg)) ∨
    (∃ er, readR b = (none, er) ∧ e = .returned (.tuple #[.agg #[.int .i64 0, .slice none 0 0], .int .i64 er])))
theorem read_fail {b : Bs} {w W : World} {tmps : Array Value} {a c e : Value} (hB : Below w.heap.size w W) (hR : readR b = (none, 2)) (hm : W.heap[w.heap.size]? = some (.cells #[a, c] 24)) (he : W.heap[w.heap.size + 1]? = some (.cells #[e] 26))
    (h2 : tmps.getD 2 undef = .pointer (some ⟨w.heap.size, 0, none⟩)) (h3 : tmps.getD 3 undef = .pointer (some ⟨w.heap.size + 1, 0, none⟩)) :
    bodyPostD Tryd.prog Tryd.f11 (ReadPost b w) (.panic [{ v := formP, recovered := false }]) { tmps := tmps, defers := [rdDefer w.heap.size (w.heap.size + 1)] } W :=
  read_leave_panic hm he h2 h3 ⟨((hB.setCell (p := ⟨w.heap.size, 0, none⟩) (Nat.le_refl _) _).setCell (p := ⟨w.heap.size, 1, none⟩) (Nat.le_refl _) _).setCell (p := ⟨w.heap.size + 1, 0, none⟩) (by show w.heap.size ≤ w.heap.size + 1; omega) _, Or.inr ⟨2, hR, rfl⟩⟩
theorem ev_Right (v : Int) (l : List S46) (hl : l.length ≤ 1000000) : Ev (fun k => manifest_Right.f k v l) (rightB v l) := by
  have step : ∀ (d i : Nat) (last : Int), i + d = l.length → Ev (fun k => manifest_Right.l0 k last l (l.length : Int) (i : Int) v l) (rightS last (l.drop i) && decide (1 ≤ v) && decide (v ≤ 999999) && decide (l.length ≤ 200)) := by
    intro d
    induction d with
    | zero =>
      intro i last hi
      have hd : l.drop i = [] := List.drop_eq_nil_of_le (by omega)
      refine Ev.step (f := fun _ => if v ≥ 1 then (if v ≤ 999999 then some (decide ((l.length : Int) ≤ 200)) else some false) else some false) (fun k => ?_) ?_
      · rw [manifest_Right.l0, if_neg (by omega)]
      · rw [hd]
        unfold rightS
        refine ev_some fun k => ?_
        by_cases h1 : 1 ≤ v
        · rw [if_pos h1]
          by_cases h2 : v ≤ 999999
          · rw [if_pos h2, decide_eq_true h1, decide_eq_true h2]
            congr 1
            rw [Bool.true_and, Bool.true_and, Bool.true_and]
            exact decide_eq_decide.2 (by omega)
          · rw [if_neg h2, decide_eq_false h2]
            simp
        · rw [if_neg h1, decide_eq_false h1]
          simp
    | succ d ih =>
      intro i last hi
      have hlt : i < l.length := by omega
      have hx : rd_T46 l (i : Int) = l[i] := by
        unfold rd_T46
        rw [Int.toNat_natCast, List.getD_eq_getElem?_getD, List.getElem?_eq_getElem hlt]
        rfl
      have hi1 : wrap64 ((i : Int) + 1) = ((i + 1 : Nat) : Int) := by rw [wrap64_in (by omega) (by omega)]; omega
      have ih' := ih (i + 1) l[i].f0 (by omega)
      rw [List.drop_eq_getElem_cons hlt]
      generalize l.drop (i + 1) = dr at ih' ⊢
      generalize l[i] = x at hx ih' ⊢
      refine Ev.step (f := fun k => if x.f0 ≤ last then some false else if x.f0 > 999999 then some false else if x.f1 < 0 then some false else if x.f1 > 1048576 then some false else manifest_Right.l0 k x.f0 l (l.length : Int) ((i + 1 : Nat) : Int) v l) (fun k => ?_) ?_
      · rw [manifest_Right.l0, if_pos (by omega), if_pos (by omega), if_pos (by omega), hx, hi1]
      · rw [rightS]
        by_cases c1 : x.f0 ≤ last
        · refine ev_if_pos c1 (ev_some fun _ => ?_)
          rw [decide_eq_true c1]; simp
        refine ev_if_neg c1 ?_
        by_cases c2 : x.f0 > 999999
        · refine ev_if_pos c2 (ev_some fun _ => ?_)
          rw [decide_eq_true (show 999999 < x.f0 from c2)]; simp
        refine ev_if_neg c2 ?_
        by_cases c3 : x.f1 < 0
        · refine ev_if_pos c3 (ev_some fun _ => ?_)
          rw [decide_eq_true c3]; simp
        refine ev_if_neg c3 ?_
        by_cases c4 : x.f1 > 1048576
        · refine ev_if_pos c4 (ev_some fun _ => ?_)
          rw [decide_eq_true (show 1048576 < x.f1 from c4)]; simp
        refine ev_if_neg c4 ?_
        rw [decide_eq_false c1, decide_eq_false (show ¬ 999999 < x.f0 from c2), decide_eq_false c3, decide_eq_false (show ¬ 1048576 < x.f1 from c4)]
        exact ih'
  exact step l.length 0 (-1) (by omega)
theorem infoSeg : (Tryd.prog.info? 46).map (fun i => (i.zero, i.size, i.bytes)) = some (some (.agg #[.int .i64 0, .int .i64 0, .int .u32 0]), 3, 24) := by kernel_rfl
set_option maxHeartbeats 6400000 in
theorem man_Read.calls (b : ByteArray) (hb : b.size ≤ 1000000) (w : World) : Calls Tryd.prog 11 #[.string b] w (ReadPost (L b) w) := by
  have hmf : ∀ (fn : Fn) (first cap : Array Value) (w : World), (Instr.makeFunc fn first cap).run Tryd.prog w = .ok (.func fn first cap) w := fun _ _ _ _ => rfl
  have hq := crc_Open_S b (by omega)
  have HQ := Aside0.mk hq
  clear hq
  go_enter_defers Tryd.func11, Tryd.ntmps11
  go_wp2_with fail
  refine (crc_Open.calls b _ _ _ HQ.out).mono ?_
  rintro e w1 ⟨rfl, b1⟩
  have XM := Aside0.mk (blk_below (blk_alloc (blk_new w (.cells #[.int .i64 0, .slice none 0 0] 24)) (.cells #[.int .i64 0] 26)) b1)
  have XE := Aside0.mk (show w1.heap[w.heap.size + 1]? = some (.cells #[.int .i64 0] 26) by
    have := blk_below (blk_new (w.alloc (.cells #[.int .i64 0, .slice none 0 0] 24)) (.cells #[.int .i64 0] 26)) b1
    simpa using this)
  have B1 := Aside0.mk (((Below.refl w.heap.size w).alloc (Nat.le_refl _) (.cells #[.int .i64 0, .slice none 0 0] 24)).alloc (by simp) (.cells #[.int .i64 0] 26) |>.trans (b1.mono (by simp; omega)))
  have HZ := Aside0.mk (show w.heap.size + 2 ≤ w1.heap.size by have := b1.size; simp at this; omega)
  clear b1
  obtain ⟨c0, c1, fm⟩ := cells2m XM.out
  obtain ⟨c2, fe⟩ := cells1' XE.out
  cases ho : (openS (L b)).2 with
  | false =>
    have HR := Aside0.mk (show readR (L b) = (none, 4) by unfold readR; rw [ho]; rfl)
    go_wp2_with fail
    have XM2 : ((w1.setCell ⟨w.heap.size, 0, none⟩ (.int .i64 0)).setCell ⟨w.heap.size, 1, none⟩ (.slice none 0 0)).heap[w.heap.size]? = some (.cells #[.int .i64 0, .slice none 0 0] 24) := by simpa using blk_set (blk_set XM.out 0 (.int .i64 0)) 1 (.slice none 0 0)
    have XE2 : ((w1.setCell ⟨w.heap.size, 0, none⟩ (.int .i64 0)).setCell ⟨w.heap.size, 1, none⟩ (.slice none 0 0)).heap[w.heap.size + 1]? = some (.cells #[.int .i64 0] 26) := (Below.heap_setCell _ _ _ _ (by show w.heap.size + 1 ≠ w.heap.size; omega)).trans ((Below.heap_setCell _ _ _ _ (by show w.heap.size + 1 ≠ w.heap.size; omega)).trans XE.out)
    refine read_leave_ok (m := w.heap.size) (e := w.heap.size + 1) (a := .int .i64 0) (b := .slice none 0 0) (c := .int .i64 4) ((Below.heap_setCell _ _ _ _ (by show w.heap.size ≠ w.heap.size + 1; omega)).trans XM2) (by simpa using blk_set XE2 0 (.int .i64 4)) rfl rfl ?_
    exact ⟨((B1.out.setCell (p := ⟨w.heap.size, 0, none⟩) (Nat.le_refl _) _).setCell (p := ⟨w.heap.size, 1, none⟩) (Nat.le_refl _) _).setCell (p := ⟨w.heap.size + 1, 0, none⟩) (by show w.heap.size ≤ w.heap.size + 1; omega) _, Or.inr ⟨4, HR.out, rfl⟩⟩
  | true =>
    have HO := Aside0.mk ho
    obtain ⟨s0, hs0⟩ : ∃ s, (openS (L b)).1 = s := ⟨_, rfl⟩
    have HS0 := Aside0.mk hs0
    have hs0l : s0.length ≤ 1000000 := by
      rw [← hs0]
      unfold openS
      have : (L b).length = b.size := L_length b
      split
      · simp
      · split
        · rw [List.length_drop]; omega
        · simp
    rw [hs0]
    have HRD := Aside0.mk (show readR (L b) = match (tk 999999 s0).bind fun a => (tk 200 a.2).bind fun k => (segsN k.1 k.2).bind fun p => if p.2 = [] ∧ rightB (a.1 : Nat) (p.1.map mkSg) = true then some (a.1, p.1) else none with
      | some r => (some r, 0)
      | none => (none, 2) by unfold readR; rw [ho, hs0]; rfl)
    have HS0L := Aside0.mk hs0l
    clear ho hs0 hs0l
    go_wp2_with fail
    have XR := Aside0.mk (blk_new w1 (.cells #[.string (B s0)] 61))
    have XM2 := Aside0.mk (blk_alloc XM.out (.cells #[.string (B s0)] 61))
    have XE2 := Aside0.mk (blk_alloc XE.out (.cells #[.string (B s0)] 61))
    have B2 := Aside0.mk (B1.out.alloc B1.out.size (.cells #[.string (B s0)] 61))
    obtain ⟨r, hr⟩ : ∃ r, w1.heap.size = r := ⟨_, rfl⟩
    obtain ⟨w2, hw2⟩ : ∃ w2, w1.alloc (.cells #[.string (B s0)] 61) = w2 := ⟨_, rfl⟩
    rw [hr] at HZ XR ⊢
    rw [hw2] at XR XM2 XE2 B2 ⊢
    have HR2 := Aside0.mk (show r < w2.heap.size from lt_of_block XR.out)
    clear hr hw2 c0 c1 fm c2 fe
    refine (take_calls r 999999 (by decide) s0 HS0L.out _ XR.out).mono ?_
    rintro e w3 ⟨f3, ⟨v, s1, ht, rfl, hv, hl, hc⟩ | ⟨ht, rfl, hc⟩⟩
    · have XM3 := Aside0.mk (f3.keeps XM2.out (by have := HZ.out; omega))
      have XE3 := Aside0.mk (f3.keeps XE2.out (by have := HZ.out; omega))
      have B3 := Aside0.mk (B2.out.trans (f3.below B2.out.size (fun i _ h => by have := HZ.out; omega)))
      have XR3 := Aside0.mk hc
      have HT := Aside0.mk ht
      have HS1L := Aside0.mk (Nat.le_trans hl HS0L.out)
      have HW3 := Aside0.mk (Nat.lt_of_lt_of_le HR2.out f3.size)
      clear f3 ht hl hc XM2 XE2 B2 XR HR2
      obtain ⟨c0, c1, fm⟩ := cells2m XM3.out
      go_wp2_with fail
      obtain ⟨w4, hw4⟩ : ∃ w4, w3.setCell ⟨w.heap.size, 0, none⟩ (.int .i64 (v : Nat)) = w4 := ⟨_, rfl⟩
      have XM4 := Aside0.mk (show w4.heap[w.heap.size]? = some (.cells #[.int .i64 (v : Nat), .slice none 0 0] 24) by rw [← hw4]; simpa using blk_set XM3.out 0 (.int .i64 (v : Nat)))
      have XE4 := Aside0.mk (show w4.heap[w.heap.size + 1]? = some (.cells #[.int .i64 0] 26) by rw [← hw4]; exact (Below.heap_setCell _ _ _ _ (by show w.heap.size + 1 ≠ w.heap.size; omega)).trans XE3.out)
      have XR4 := Aside0.mk (show w4.heap[r]? = some (.cells #[.string (B s1)] 61) by rw [← hw4]; exact (Below.heap_setCell _ _ _ _ (by have := HZ.out; show r ≠ w.heap.size; omega)).trans XR3.out)
      have B4 := Aside0.mk (show Below w.heap.size w w4 by rw [← hw4]; exact B3.out.setCell (p := ⟨w.heap.size, 0, none⟩) (Nat.le_refl _) _)
      have HW4 := Aside0.mk (show r < w4.heap.size from lt_of_block XR4.out)
      rw [hw4]
      clear hw4 c0 c1 fm XM3 XE3 XR3 B3 HW3
      refine (take_calls r 200 (by decide) s1 HS1L.out _ XR4.out).mono ?_
      rintro e w5 ⟨f5, ⟨k, s2, ht, rfl, hv2, hl, hc⟩ | ⟨ht, rfl, hc⟩⟩
      · have XM5 := Aside0.mk (f5.keeps XM4.out (by have := HZ.out; omega))
        have XE5 := Aside0.mk (f5.keeps XE4.out (by have := HZ.out; omega))
        have B5 := Aside0.mk (B4.out.trans (f5.below B4.out.size (fun i _ h => by have := HZ.out; omega)))
        have XR5 := Aside0.mk hc
        have HK := Aside0.mk ht
        have HS2L := Aside0.mk (Nat.le_trans hl HS1L.out)
        have HW5 := Aside0.mk (Nat.lt_of_lt_of_le HW4.out f5.size)
        clear f5 ht hl hc XM4 XE4 B4 XR4 HW4
        go_wp2_with fail
        go_loopw [29] (fun v29 wr => ∃ (j : Nat) (l : List (Nat × Nat × Nat)) (s : Bs) (A : Option Addr) (c : Nat), j ≤ k ∧ v29 = .int .i64 j ∧ Aside0 (segsN j s2 = some (l, s)) ∧ Aside0 (l.length = j) ∧ Aside0 (s.length ≤ 1000000) ∧ Aside0 (wr.heap[r]? = some (.cells #[.string (B s)] 61)) ∧ Aside0 (wr.heap[w.heap.size]? = some (.cells #[.int .i64 (v : Nat), .slice A j c] 24)) ∧ Aside0 (wr.heap[w.heap.size + 1]? = some (.cells #[.int .i64 0] 26)) ∧ Aside0 (Kd.R k46 46 wr w5.heap.size (fun _ => True) (.slice A j c) (l.map mkSg)) ∧ Aside0 (Below w.heap.size w wr) ∧ Aside0 (w5.heap.size ≤ wr.heap.size)) (fun v29 _ => k - (intOf v29).toNat)
        case atStart => exact ⟨0, [], s2, none, 0, Nat.zero_le _, rfl, ⟨rfl⟩, ⟨rfl⟩, HS2L, XR5, XM5, XE5, ⟨Kd.R_nil _ _ _ _ _⟩, B5, ⟨Nat.le_refl _⟩⟩
        case round =>
          obtain ⟨j, l, s, A, c, hj, rfl, HSG, HLN, HSL, XRj, XMj, XEj, RJ, BJ, ZJ⟩ := hrel
          by_cases hjk : j < k
          · have djk : decide ((j : Int) < (k : Int)) = true := decide_eq_true (by omega)
            have FAIL := Aside0.mk (show seg1 s = none → readR (L b) = (none, 2) from fun h => by rw [HRD.out, HT.out]; simp only [Option.bind_some, HK.out, segsN_fail HSG.out h hjk]; rfl)
            have RJ0 := Aside0.mk (Kd.R_mono (Kd.R_bound RJ.out) (ok' := fun q => w5.heap.size ≤ q) (fun q hq => hq.2.1))
            go_wp2_with fail
            refine (take_calls r 999999 (by decide) s HSL.out _ XRj.out).mono ?_
            rintro e wa ⟨f, ⟨n, ta, ht, rfl, hva, hl, hc⟩ | ⟨ht, rfl, hc⟩⟩
            rotate_left
            · exact read_fail (BJ.out.trans (f.below BJ.out.size (fun i _ h => by have := HZ.out; omega))) (FAIL.out (by unfold seg1; rw [ht]; rfl)) (f.keeps XMj.out (by have := HZ.out; omega)) (f.keeps XEj.out (by have := HZ.out; omega)) rfl rfl
            have XMa := Aside0.mk (f.keeps XMj.out (by have := HZ.out; omega))
            have XEa := Aside0.mk (f.keeps XEj.out (by have := HZ.out; omega))
            have Ba := Aside0.mk (BJ.out.trans (f.below BJ.out.size (fun i _ h => by have := HZ.out; omega)))
            have XRa := Aside0.mk hc
            have HSLa := Aside0.mk (Nat.le_trans hl HSL.out)
            have Ra := Aside0.mk (Kd.R_step RJ0.out (fun q hq hlt => f.block q hlt (fun e => by have := HW5.out; omega)))
            have HTa := Aside0.mk ht
            have Za := Aside0.mk (Nat.le_trans ZJ.out f.size)
            clear f ht hl hc
            go_wp2_with fail
            refine (take_calls r 1048576 (by decide) ta HSLa.out _ XRa.out).mono ?_
            rintro e wb ⟨f, ⟨z, tb, ht, rfl, hvb, hl, hc⟩ | ⟨ht, rfl, hc⟩⟩
            rotate_left
            · exact read_fail (Ba.out.trans (f.below Ba.out.size (fun i _ h => by have := HZ.out; omega))) (FAIL.out (by unfold seg1; rw [HTa.out]; simp only [Option.bind_some, ht]; rfl)) (f.keeps XMa.out (by have := HZ.out; omega)) (f.keeps XEa.out (by have := HZ.out; omega)) rfl rfl
            have XMb := Aside0.mk (f.keeps XMa.out (by have := HZ.out; omega))
            have XEb := Aside0.mk (f.keeps XEa.out (by have := HZ.out; omega))
            have Bb := Aside0.mk (Ba.out.trans (f.below Ba.out.size (fun i _ h => by have := HZ.out; omega)))
            have XRb := Aside0.mk hc
            have HSLb := Aside0.mk (Nat.le_trans hl HSLa.out)
            have Rb := Aside0.mk (Kd.R_step Ra.out (fun q hq hlt => f.block q hlt (fun e => by have := HW5.out; omega)))
            have HTb := Aside0.mk ht
            have Zb := Aside0.mk (Nat.le_trans Za.out f.size)
            clear f ht hl hc
            go_wp2_with fail
            refine (take_calls r 4294967295 (by decide) tb HSLb.out _ XRb.out).mono ?_
            rintro e wc ⟨f, ⟨u, td, ht, rfl, hvc, hl, hc⟩ | ⟨ht, rfl, hc⟩⟩
            rotate_left
            · exact read_fail (Bb.out.trans (f.below Bb.out.size (fun i _ h => by have := HZ.out; omega))) (FAIL.out (by unfold seg1; rw [HTa.out]; simp only [Option.bind_some, HTb.out, ht]; rfl)) (f.keeps XMb.out (by have := HZ.out; omega)) (f.keeps XEb.out (by have := HZ.out; omega)) rfl rfl
            have XMc := Aside0.mk (f.keeps XMb.out (by have := HZ.out; omega))
            have XEc := Aside0.mk (f.keeps XEb.out (by have := HZ.out; omega))
            have Bc := Aside0.mk (Bb.out.trans (f.below Bb.out.size (fun i _ h => by have := HZ.out; omega)))
            have XRc := Aside0.mk hc
            have HSLc := Aside0.mk (Nat.le_trans hl HSLb.out)
            have Rc := Aside0.mk (Kd.R_step Rb.out (fun q hq hlt => f.block q hlt (fun e => by have := HW5.out; omega)))
            have HTc := Aside0.mk ht
            have Zc := Aside0.mk (Nat.le_trans Zb.out f.size)
            clear f ht hl hc
            obtain ⟨c0, c1, fm⟩ := cells2m XMc.out
            have HLM := Aside0.mk (show (l.map mkSg).length = j by rw [List.length_map, HLN.out])
            go_wp2_with (at_builtin; refine Kd.R_append k46 (w0 := wc) w5.heap.size rfl (.tmp 38) (.tmp 46) 22 46 (.agg #[.int .i64 0, .int .i64 0, .int .u32 0]) 24 rfl Tryd.underlying22 infoSeg rfl (by decide) (by omega) (.slice A j c) (l.map mkSg) (mkSg (n, z, u)) [.int .i64 (n : Nat), .int .i64 (z : Nat), .int .u32 (u : Nat)] (fun q => w5.heap.size ≤ q) (fun _ => False) rfl rfl (k46_mkM _ _ _ (mkSg (n, z, u))) (fun _ hk => hk.elim) (fun k hk => Nat.le_trans Zc.out hk) Rc.out (Below.refl _ _) Zc.out (by rw [HLM.out]; omega) ?_; intro v1 wd hR hB hg hat; obtain ⟨A6, c6, rfl⟩ := Kd.R_slice hR; have HRd := Aside0.mk hR; have HBd := Aside0.mk hB; clear hR hB hg hat; obtain ⟨c0', c1', fm'⟩ := cells2m (HBd.out.block w.heap.size (by have := HW5.out; have := HZ.out; omega) ▸ XMc.out))
            rw [show l.length = j from HLN.out]
            have hlm : (l.map mkSg ++ [mkSg (n, z, u)]).length = j + 1 := by rw [List.length_append, HLM.out]; rfl
            rw [hlm] at HRd
            have q1 : ∀ q : Nat, q < w5.heap.size → q ≠ w.heap.size → (wd.setCell ⟨w.heap.size, 1, none⟩ (.slice A6 (j + 1) c6)).heap[q]? = wc.heap[q]? := fun q h1 h2 => (Below.heap_setCell _ _ _ _ h2).trans (HBd.out.block q h1)
            go_roundw
            case measure => show k - ((j : Int) + 1).toNat < k - (j : Int).toNat; omega
            refine ⟨j + 1, l ++ [(n, z, u)], td, A6, c6, by omega, rfl, ⟨?_⟩, ⟨by rw [List.length_append, HLN.out, List.length_singleton]⟩, HSLc, ⟨(q1 r HW5.out (by have := HZ.out; omega)).trans XRc.out⟩, ⟨?_⟩, ⟨(q1 _ (by have := HW5.out; have := HZ.out; omega) (by omega)).trans XEc.out⟩, ⟨?_⟩, ⟨?_⟩, ⟨?_⟩⟩
            · rw [segsN_next HSG.out]
              unfold seg1
              rw [HTa.out]
              simp only [Option.bind_some, HTb.out, HTc.out]
            · simpa using blk_set ((HBd.out.block _ (by have := HW5.out; have := HZ.out; omega)).trans XMc.out) 1 (.slice A6 (j + 1) c6)
            · rw [List.map_append]
              exact Kd.R_mono (Kd.R_far HRd.out (p := ⟨w.heap.size, 1, none⟩) (fun q hq => by have := HW5.out; have := HZ.out; show q ≠ w.heap.size; omega) _) (fun _ _ => trivial)
            · exact (Bc.out.trans (HBd.out.mono (by have := HW5.out; have := HZ.out; omega))).setCell (p := ⟨w.heap.size, 1, none⟩) (Nat.le_refl _) _
            · have := HBd.out.size
              have := Zc.out
              simp [World.setCell]
              omega
          · have djk : decide ((j : Int) < (k : Int)) = false := decide_eq_false (by omega)
            obtain rfl : j = k := by omega
            obtain ⟨c0, c1, fm⟩ := cells2m XMj.out
            obtain ⟨c2, fe⟩ := cells1' XEj.out
            obtain ⟨c3, fr⟩ := cells1' XRj.out
            have HEM := Aside0.mk (show (B s).toList = [] ↔ s = [] by
              rw [Lib.toList_data]
              show s.toArray.toList = [] ↔ s = []
              simp)
            have HRR := Aside0.mk (fun h : ¬ (s = [] ∧ rightB (v : Nat) (l.map mkSg) = true) => (show readR (L b) = (none, 2) by rw [HRD.out, HT.out]; simp only [Option.bind_some, HK.out, HSG.out]; rw [if_neg h]))
            by_cases hem : (B s).toList = []
            case neg =>
              have HFR := Aside0.mk (HRR.out (fun h => hem (HEM.out.2 h.1)))
              go_wp2_with fail
              refine (must_calls false _).mono ?_
              rintro e wz ⟨rfl, ⟨h, _⟩ | ⟨_, rfl⟩⟩
              · cases h
              · exact read_fail BJ.out HFR.out XMj.out XEj.out rfl rfl
            case pos =>
              have HSE := Aside0.mk (HEM.out.1 hem)
              have hlm : (l.map mkSg).length = j := by rw [List.length_map, HLN.out]
              obtain ⟨qr, hqr⟩ := Ev.rounds (ev_Right (v : Nat) (l.map mkSg) (by omega))
              have HQR := Aside0.mk hqr
              have HRJ := Aside0.mk (Kd.R_reads' RJ.out)
              obtain ⟨rb, hrb⟩ : ∃ rb, rightB (v : Nat) (l.map mkSg) = rb := ⟨_, rfl⟩
              have HRB := Aside0.mk hrb
              rw [hrb] at HQR
              clear hqr hrb hlm
              go_wp2_with fail
              have hcl := manifest_Right.calls qr (v : Nat) A c (l.map mkSg) rb wr (HRJ.out.1 ▸ HRJ.out.2.2) (HRJ.out.1 ▸ HRJ.out.2.1) HQR.out
              rw [← HRJ.out.1] at hcl
              refine hcl.mono ?_
              rintro e wy ⟨rfl, by_⟩
              have XMy := Aside0.mk (blk_below XMj.out by_)
              have XEy := Aside0.mk (blk_below XEj.out by_)
              have By := Aside0.mk (BJ.out.trans (by_.mono BJ.out.size))
              have RJy := Aside0.mk (Kd.R_below RJ.out by_)
              clear by_ hcl c0 c1 fm c2 fe c3 fr
              obtain ⟨c0, c1, fm⟩ := cells2m XMy.out
              obtain ⟨c2, fe⟩ := cells1' XEy.out
              cases rb with
              | false =>
                have HFR := Aside0.mk (HRR.out (fun h => by rw [HRB.out] at h; exact absurd h.2 (by simp)))
                go_wp2_with fail
                refine (must_calls false _).mono ?_
                rintro e wz ⟨rfl, ⟨h, _⟩ | ⟨_, rfl⟩⟩
                · cases h
                · exact read_fail By.out HFR.out XMy.out XEy.out rfl rfl
              | true =>
                have HOK := Aside0.mk (show readR (L b) = (some (v, l), 0) by rw [HRD.out, HT.out]; simp only [Option.bind_some, HK.out, HSG.out]; rw [if_pos ⟨HSE.out, HRB.out⟩])
                go_wp2_with fail
                refine (must_calls true _).mono ?_
                rintro e wz ⟨rfl, ⟨_, rfl⟩ | ⟨h, _⟩⟩
                · go_wp2_with fail
                  have XM2 : ((wz.setCell ⟨w.heap.size, 0, none⟩ (.int .i64 (v : Nat))).setCell ⟨w.heap.size, 1, none⟩ (.slice A j c)).heap[w.heap.size]? = some (.cells #[.int .i64 (v : Nat), .slice A j c] 24) := by simpa using blk_set (blk_set XMy.out 0 (.int .i64 (v : Nat))) 1 (.slice A j c)
                  have XE2 : ((wz.setCell ⟨w.heap.size, 0, none⟩ (.int .i64 (v : Nat))).setCell ⟨w.heap.size, 1, none⟩ (.slice A j c)).heap[w.heap.size + 1]? = some (.cells #[.int .i64 0] 26) := (Below.heap_setCell _ _ _ _ (by show w.heap.size + 1 ≠ w.heap.size; omega)).trans ((Below.heap_setCell _ _ _ _ (by show w.heap.size + 1 ≠ w.heap.size; omega)).trans XEy.out)
                  refine read_leave_ok (m := w.heap.size) (e := w.heap.size + 1) (a := .int .i64 (v : Nat)) (b := .slice A j c) (c := .int .i64 0) ((Below.heap_setCell _ _ _ _ (by show w.heap.size ≠ w.heap.size + 1; omega)).trans XM2) (by simpa using blk_set XE2 0 (.int .i64 0)) rfl rfl ?_
                  have hlow : ∀ q : Nat, w5.heap.size ≤ q → q ≠ w.heap.size ∧ q ≠ w.heap.size + 1 := fun q hq => by have := HW5.out; have := HZ.out; omega
                  have hR0 := Kd.R_mono (Kd.R_bound RJy.out) (ok' := fun q => w5.heap.size ≤ q) (fun q hq => hq.2.1)
                  have hR1 := Kd.R_far hR0 (p := ⟨w.heap.size, 0, none⟩) (fun q hq => (hlow q hq).1) (.int .i64 (v : Nat))
                  have hR2 := Kd.R_far hR1 (p := ⟨w.heap.size, 1, none⟩) (fun q hq => (hlow q hq).1) (.slice A j c)
                  have hR3 := Kd.R_far hR2 (p := ⟨w.heap.size + 1, 0, none⟩) (fun q hq => (hlow q hq).2) (.int .i64 0)
                  refine ⟨((By.out.setCell (p := ⟨w.heap.size, 0, none⟩) (Nat.le_refl _) _).setCell (p := ⟨w.heap.size, 1, none⟩) (Nat.le_refl _) _).setCell (p := ⟨w.heap.size + 1, 0, none⟩) (by show w.heap.size ≤ w.heap.size + 1; omega) _, Or.inl ⟨v, l, A, c, HOK.out, by rw [HLN.out], ?_⟩⟩
                  rw [HLN.out]
                  exact Kd.R_lower (Kd.R_mono hR3 (fun _ _ => trivial)) (by have := HW5.out; have := HZ.out; omega)
                · cases h
      · exact read_fail (B4.out.trans (f5.below B4.out.size (fun i _ h => by have := HZ.out; omega))) (by rw [HRD.out, HT.out]; simp only [Option.bind_some, ht]; rfl) (f5.keeps XM4.out (by have := HZ.out; omega)) (f5.keeps XE4.out (by have := HZ.out; omega)) rfl rfl
    · exact read_fail (B2.out.trans (f3.below B2.out.size (fun i _ h => by have := HZ.out; omega))) (by rw [HRD.out, ht]; rfl) (f3.keeps XM2.out (by have := HZ.out; omega)) (f3.keeps XE2.out (by have := HZ.out; omega)) rfl rfl
end Go.Proofs.YtgampcbjmdgciaaDoor.Thw
