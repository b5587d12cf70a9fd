/- Layer 7: the document's Put, PutNew, Get, Delete, List. -/
import Derived.Test.YtnkadkahdnnbbaaEv07X
namespace Go.Proofs.Ytnkadkahdnnbbaa.Thw
open Go Go.RowKit Go.Maps Go.Proofs.YtnkadkahdnnbbaaW.PrintWords Go.Proofs.YtnkadkahdnnbbaaW.PrintLast Go.Proofs.YtnkadkahdnnbbaaW.PrintMore
set_option linter.unusedVariables false
set_option linter.unusedSimpArgs false
theorem nA_trans {A : Nat → Prop} {w w1 w2 : World} (hz : w.heap.size ≤ w1.heap.size) (k : Nat) (hk : nA (nA A w w1) w1 w2 k) : nA A w w2 k := ⟨hk.1.elim (fun x => x.1) (fun x => Or.inr (Nat.le_trans hz x)), hk.2⟩
theorem RfR.grow {w w' : World} {A : Nat → Prop} {g : Nat} {L : List RObj} {s : List Int} {n : Int} (h : RfR w' A g L s n) (hz : w.heap.size ≤ w'.heap.size) : RfR w' (nA A w w') g L s n := h.mono (fun k hk => ⟨Or.inl hk, h.old k hk⟩) (fun k hk => hk.2)
/-- What a call, and the next one, come to. -/
theorem RPost.then {v : Value} {w w1 w2 : World} {A : Nat → Prop} {g : Nat} {L : List RObj} {s : List Int} {n : Int} (f1 : Frm A w w1) (hR : RfR w2 (Thw.nA A w1 w2) g L s n) (f2 : Frm A w1 w2) : RfR w2 (Thw.nA A w w2) g L s n ∧ Frm A w w2 :=
  ⟨hR.mono (fun k hk => ⟨hk.1.elim Or.inl (fun x => Or.inr (Nat.le_trans f1.size x)), hk.2⟩) (fun k hk => hk.2), f1.andThen f2 (fun i hi => Or.inl hi)⟩
theorem refL_mem {m : Fls} (hn : (m.map (·.1)).Nodup) (k : ByteArray) : (∀ x ∈ refL m, x.1 ≠ k) ↔ look m k = none := by
  have h1 : (refL m).map (·.1) = names m := refL_names m
  have h2 := mem_keys_iff m k
  constructor
  · intro h
    cases hl : look m k with
    | none => rfl
    | some b =>
      exfalso
      have h3 : k ∈ m.map (·.1) := h2.2 (by rw [hl]; rfl)
      have h4 : k ∈ (refL m).map (·.1) := by rw [h1]; exact mem_names.2 h3
      obtain ⟨x, hx, e⟩ := List.mem_map.1 h4
      exact h x hx e
  · intro hl x hx e
    have h4 : k ∈ names m := by rw [← h1]; exact List.mem_map.2 ⟨x, hx, e⟩
    have := h2.1 (mem_names.1 h4)
    rw [hl] at this
    cases this
theorem refL_val {m : Fls} (hn : (m.map (·.1)).Nodup) {i : Nat} (hi : i < (refL m).length) : look m (refL m)[i].1 = some (refL m)[i].2 := by
  have hi2 : i < (names m).length := by unfold refL at hi; rw [List.length_map] at hi; exact hi
  have e : (refL m)[i] = ((names m)[i], fileIn m (names m)[i]) := by simp [refL]
  rw [e]
  have h1 := (mem_keys_iff m (names m)[i]).1 (mem_names.1 (List.getElem_mem hi2))
  cases hl : look m (names m)[i] with
  | none => rw [hl] at h1; cases h1
  | some b => simp [fileIn, hl]
set_option maxHeartbeats 3200000 in
set_option maxRecDepth 100000 in
theorem rf_Put (w : World) (A : Nat → Prop) (g : Nat) (st : Rem) (h : RfR w A g (refL st.m) st.s st.n) (hl : st.m.length ≤ 100000) (hn : (st.m.map (·.1)).Nodup) (k b : ByteArray) :
    Calls Try.prog 26 #[.pointer (some ⟨g, 0, none⟩), .string k, .string b] w (fun e w' => RPost (.int .i64 (st.put k b).2) w A g (refL (st.put k b).1.m) (st.put k b).1.s (st.put k b).1.n e w') := by
  have HL := Aside0.mk (show (refL st.m).length ≤ 1000000 by rw [refL_length]; omega)
  have HN := Aside0.mk hn
  have HF := Aside0.mk (rf_fate w A g _ _ _ h)
  clear h hl hn
  obtain ⟨f, hf⟩ : ∃ f, st.s.headD 0 = f := ⟨_, rfl⟩
  rw [hf] at HF
  have HFE := Aside0.mk (show st.fate = f from hf)
  clear hf
  go_enter Try.func26, Try.ntmps26
  go_wp2_with fail
  refine HF.out.mono ?_
  rintro e w1 ⟨rfl, h1, f1⟩
  have H1 := Aside0.mk h1
  have F1 := Aside0.mk f1
  clear h1 f1 HF
  by_cases hf1 : f = 1
  · subst hf1
    go_wp2_with fail
    go_ret
    have e1 : st.put k b = (st.next, 9) := by simp [Rem.put, HFE.out]
    unfold RPost
    rw [e1]
    exact ⟨rfl, H1.out.grow F1.out.size, F1.out⟩
  by_cases hf2 : f = 2
  · subst hf2
    go_wp2_with fail
    refine (rf_lay w1 A g (refL st.m) _ _ H1.out HL.out k b).mono ?_
    rintro e w2 ⟨rfl, h2, f2⟩
    rw [wi_wo HN.out] at h2
    have HT := Aside0.mk (RPost.then (v := .tuple #[]) F1.out h2 f2)
    clear h2 f2
    go_wp2_with fail
    go_ret
    have e1 : st.put k b = ({ st.next with m := Thw.put st.m k b }, 9) := by simp [Rem.put, HFE.out]
    unfold RPost
    rw [e1]
    exact ⟨rfl, HT.out.1, HT.out.2⟩
  have b1 : (f == 1) = false := beq_eq_false_iff_ne.2 hf1
  have b2 : (f == 2) = false := beq_eq_false_iff_ne.2 hf2
  have b3 : (f != 1) = true := bne_iff_ne.2 hf1
  have b4 : decide (f = 1) = false := decide_eq_false hf1
  have FF := Aside0.mk (And.intro hf1 hf2)
  clear hf1 hf2
  go_wp2_with fail
  refine (rf_lay w1 A g (refL st.m) _ _ H1.out HL.out k b).mono ?_
  rintro e w2 ⟨rfl, h2, f2⟩
  rw [wi_wo HN.out] at h2
  have HT := Aside0.mk (RPost.then (v := .tuple #[]) F1.out h2 f2)
  clear h2 f2
  go_wp2_with fail
  go_ret
  have e1 : st.put k b = ({ st.next with m := Thw.put st.m k b }, 0) := by simp [Rem.put, HFE.out, FF.out.1, FF.out.2]
  unfold RPost
  rw [e1]
  exact ⟨rfl, HT.out.1, HT.out.2⟩
set_option maxHeartbeats 3200000 in
set_option maxRecDepth 100000 in
theorem rf_Delete (w : World) (A : Nat → Prop) (g : Nat) (st : Rem) (h : RfR w A g (refL st.m) st.s st.n) (hl : st.m.length ≤ 100000) (hn : (st.m.map (·.1)).Nodup) (k : ByteArray) :
    Calls Try.prog 30 #[.pointer (some ⟨g, 0, none⟩), .string k] w (fun e w' => RPost (.int .i64 (st.delete k).2) w A g (refL (st.delete k).1.m) (st.delete k).1.s (st.delete k).1.n e w') := by
  have HL := Aside0.mk (show (refL st.m).length ≤ 1000000 by rw [refL_length]; omega)
  have HN := Aside0.mk hn
  have HF := Aside0.mk (rf_fate w A g _ _ _ h)
  clear h hl hn
  obtain ⟨f, hf⟩ : ∃ f, st.s.headD 0 = f := ⟨_, rfl⟩
  rw [hf] at HF
  have HFE := Aside0.mk (show st.fate = f from hf)
  clear hf
  go_enter Try.func30, Try.ntmps30
  go_wp2_with fail
  refine HF.out.mono ?_
  rintro e w1 ⟨rfl, h1, f1⟩
  have H1 := Aside0.mk h1
  have F1 := Aside0.mk f1
  clear h1 f1 HF
  by_cases hf1 : f = 1
  · subst hf1
    go_wp2_with fail
    go_ret
    have e1 : st.delete k = (st.next, 9) := by simp [Rem.delete, HFE.out]
    unfold RPost
    rw [e1]
    exact ⟨rfl, H1.out.grow F1.out.size, F1.out⟩
  by_cases hf2 : f = 2
  · subst hf2
    go_wp2_with fail
    refine (rf_without w1 A g (refL st.m) _ _ H1.out HL.out k).mono ?_
    rintro e w2 ⟨rfl, h2, f2⟩
    rw [wo_refL HN.out] at h2
    have HT := Aside0.mk (RPost.then (v := .tuple #[]) F1.out h2 f2)
    clear h2 f2
    go_wp2_with fail
    go_ret
    have e1 : st.delete k = ({ st.next with m := Thw.del st.m k }, 9) := by simp [Rem.delete, HFE.out]
    unfold RPost
    rw [e1]
    exact ⟨rfl, HT.out.1, HT.out.2⟩
  have b1 : (f == 1) = false := beq_eq_false_iff_ne.2 hf1
  have b2 : (f == 2) = false := beq_eq_false_iff_ne.2 hf2
  have b3 : (f != 1) = true := bne_iff_ne.2 hf1
  have b4 : decide (f = 1) = false := decide_eq_false hf1
  have FF := Aside0.mk (And.intro hf1 hf2)
  clear hf1 hf2
  go_wp2_with fail
  refine (rf_without w1 A g (refL st.m) _ _ H1.out HL.out k).mono ?_
  rintro e w2 ⟨rfl, h2, f2⟩
  rw [wo_refL HN.out] at h2
  have HT := Aside0.mk (RPost.then (v := .tuple #[]) F1.out h2 f2)
  clear h2 f2
  go_wp2_with fail
  go_ret
  have e1 : st.delete k = ({ st.next with m := Thw.del st.m k }, 0) := by simp [Rem.delete, HFE.out, FF.out.1, FF.out.2]
  unfold RPost
  rw [e1]
  exact ⟨rfl, HT.out.1, HT.out.2⟩
set_option maxHeartbeats 3200000 in
set_option maxRecDepth 100000 in
theorem rf_PutNew (w : World) (A : Nat → Prop) (g : Nat) (st : Rem) (h : RfR w A g (refL st.m) st.s st.n) (hl : st.m.length ≤ 100000) (hn : (st.m.map (·.1)).Nodup) (k b : ByteArray) :
    Calls Try.prog 27 #[.pointer (some ⟨g, 0, none⟩), .string k, .string b] w (fun e w' => RPost (.int .i64 (st.putNew k b).2) w A g (refL (st.putNew k b).1.m) (st.putNew k b).1.s (st.putNew k b).1.n e w') := by
  have HL := Aside0.mk (show (refL st.m).length ≤ 1000000 by rw [refL_length]; omega)
  have HN := Aside0.mk hn
  have HF := Aside0.mk (rf_fate w A g _ _ _ h)
  clear h hl hn
  obtain ⟨f, hf⟩ : ∃ f, st.s.headD 0 = f := ⟨_, rfl⟩
  rw [hf] at HF
  have HFE := Aside0.mk (show st.fate = f from hf)
  clear hf
  go_enter Try.func27, Try.ntmps27
  go_wp2_with fail
  refine HF.out.mono ?_
  rintro e w1 ⟨rfl, h1, f1⟩
  have H1 := Aside0.mk h1
  have F1 := Aside0.mk f1
  clear h1 f1 HF
  go_wp2_with fail
  refine (rf_at w1 A g (refL st.m) _ _ H1.out HL.out k).mono ?_
  rintro e w2 ⟨hat, rfl⟩
  rcases hat with ⟨ha, rfl⟩ | ⟨i, hi, ha, rfl⟩
  · have LK := Aside0.mk ((refL_mem HN.out k).1 ha)
    clear ha
    by_cases hf1 : f = 1
    · subst hf1
      go_wp2_with fail
      go_ret
      have e1 : st.putNew k b = (st.next, 9) := by simp [Rem.putNew, HFE.out, LK.out, ifAny]
      unfold RPost
      rw [e1]
      exact ⟨rfl, H1.out.grow F1.out.size, F1.out⟩
    by_cases hf2 : f = 2
    · subst hf2
      go_wp2_with fail
      refine (rf_lay w1 A g (refL st.m) _ _ H1.out HL.out k b).mono ?_
      rintro e w2 ⟨rfl, h2, f2⟩
      rw [wi_wo HN.out] at h2
      have HT := Aside0.mk (RPost.then (v := .tuple #[]) F1.out h2 f2)
      clear h2 f2
      go_wp2_with fail
      go_ret
      have e1 : st.putNew k b = ({ st.next with m := Thw.put st.m k b }, 9) := by simp [Rem.putNew, HFE.out, LK.out, ifAny]
      unfold RPost
      rw [e1]
      exact ⟨rfl, HT.out.1, HT.out.2⟩
    have b1 : (f == 1) = false := beq_eq_false_iff_ne.2 hf1
    have b2 : (f == 2) = false := beq_eq_false_iff_ne.2 hf2
    have b3 : (f != 1) = true := bne_iff_ne.2 hf1
    have b4 : decide (f = 1) = false := decide_eq_false hf1
    have FF := Aside0.mk (And.intro hf1 hf2)
    clear hf1 hf2
    go_wp2_with fail
    refine (rf_lay w1 A g (refL st.m) _ _ H1.out HL.out k b).mono ?_
    rintro e w2 ⟨rfl, h2, f2⟩
    rw [wi_wo HN.out] at h2
    have HT := Aside0.mk (RPost.then (v := .tuple #[]) F1.out h2 f2)
    clear h2 f2
    go_wp2_with fail
    go_ret
    have e1 : st.putNew k b = ({ st.next with m := Thw.put st.m k b }, 0) := by simp [Rem.putNew, HFE.out, LK.out, ifAny, FF.out.1, FF.out.2]
    unfold RPost
    rw [e1]
    exact ⟨rfl, HT.out.1, HT.out.2⟩
  · have LK := Aside0.mk (by rw [← ha]; exact refL_val HN.out hi : look st.m k = some (refL st.m)[i].2)
    have d0 : decide (0 ≤ (i : Int)) = true := decide_eq_true (by omega)
    clear ha
    by_cases hf1 : f = 1
    · subst hf1
      go_wp2_with fail
      go_ret
      have e1 : st.putNew k b = (st.next, 9) := by simp [Rem.putNew, HFE.out, LK.out, ifAny]
      unfold RPost
      rw [e1]
      exact ⟨rfl, H1.out.grow F1.out.size, F1.out⟩
    by_cases hf2 : f = 2
    · subst hf2
      go_wp2_with fail
      go_ret
      have e1 : st.putNew k b = (st.next, 9) := by simp [Rem.putNew, HFE.out, LK.out, ifAny]
      unfold RPost
      rw [e1]
      exact ⟨rfl, H1.out.grow F1.out.size, F1.out⟩
    have b1 : (f == 1) = false := beq_eq_false_iff_ne.2 hf1
    have b2 : (f == 2) = false := beq_eq_false_iff_ne.2 hf2
    have b3 : (f != 1) = true := bne_iff_ne.2 hf1
    have b4 : decide (f = 1) = false := decide_eq_false hf1
    have FF := Aside0.mk (And.intro hf1 hf2)
    clear hf1 hf2
    go_wp2_with fail
    go_ret
    have e1 : st.putNew k b = (st.next, 7) := by simp [Rem.putNew, HFE.out, LK.out, ifAny, FF.out.1, FF.out.2]
    unfold RPost
    rw [e1]
    exact ⟨rfl, H1.out.grow F1.out.size, F1.out⟩
set_option maxHeartbeats 3200000 in
set_option maxRecDepth 100000 in
theorem rf_Get (w : World) (A : Nat → Prop) (g : Nat) (st : Rem) (h : RfR w A g (refL st.m) st.s st.n) (hl : st.m.length ≤ 100000) (hn : (st.m.map (·.1)).Nodup) (k : ByteArray) :
    Calls Try.prog 28 #[.pointer (some ⟨g, 0, none⟩), .string k] w (fun e w' => e = .returned (.tuple #[.string (st.get k).2.1, .int .i64 (st.get k).2.2]) ∧ RfR w' A g (refL st.m) st.next.s st.next.n ∧ Frm A w w') := by
  have HL := Aside0.mk (show (refL st.m).length ≤ 1000000 by rw [refL_length]; omega)
  have HN := Aside0.mk hn
  have HF := Aside0.mk (rf_fate w A g _ _ _ h)
  clear h hl hn
  obtain ⟨f, hf⟩ : ∃ f, st.s.headD 0 = f := ⟨_, rfl⟩
  rw [hf] at HF
  have HFE := Aside0.mk (show st.fate = f from hf)
  clear hf
  go_enter Try.func28, Try.ntmps28
  go_wp2_with fail
  refine HF.out.mono ?_
  rintro e w1 ⟨rfl, h1, f1⟩
  have H1 := Aside0.mk h1
  have F1 := Aside0.mk f1
  clear h1 f1 HF
  by_cases hf1 : f = 1
  · subst hf1
    go_wp2_with fail
    go_ret2
    have e1 : st.get k = (st.next, ⟨#[]⟩, 9) := by simp [Rem.get, HFE.out]
    rw [e1]
    exact ⟨rfl, H1.out, F1.out⟩
  by_cases hf2 : f = 2
  · subst hf2
    go_wp2_with fail
    go_ret2
    have e1 : st.get k = (st.next, ⟨#[]⟩, 9) := by simp [Rem.get, HFE.out]
    rw [e1]
    exact ⟨rfl, H1.out, F1.out⟩
  have b1 : (f == 1) = false := beq_eq_false_iff_ne.2 hf1
  have b2 : (f == 2) = false := beq_eq_false_iff_ne.2 hf2
  have b3 : (f != 1) = true := bne_iff_ne.2 hf1
  have b4 : decide (f = 1) = false := decide_eq_false hf1
  have FF := Aside0.mk (And.intro hf1 hf2)
  clear hf1 hf2
  go_wp2_with fail
  refine (rf_at w1 A g (refL st.m) _ _ H1.out HL.out k).mono ?_
  rintro e w2 ⟨hat, rfl⟩
  rcases hat with ⟨ha, rfl⟩ | ⟨i, hi, ha, rfl⟩
  · have LK := Aside0.mk ((refL_mem HN.out k).1 ha)
    clear ha
    go_wp2_with fail
    go_ret2
    have e1 : st.get k = (st.next, ⟨#[]⟩, 5) := by simp [Rem.get, HFE.out, FF.out.1, FF.out.2, LK.out]
    rw [e1]
    exact ⟨rfl, H1.out, F1.out⟩
  · have LK := Aside0.mk (by rw [← ha]; exact refL_val HN.out hi : look st.m k = some (refL st.m)[i].2)
    have d0 : decide ((i : Int) < 0) = false := decide_eq_false (by omega)
    obtain ⟨_, _, v, sv, hb, hR, _⟩ := H1.out
    obtain ⟨A0, c0', rfl, hc0, hC⟩ := Kd.R_reads hR
    obtain ⟨t0, t1, t2, fr⟩ := cells3 hb
    obtain ⟨ad, rfl, q0, q1⟩ := C_obAt hC hi
    have i0 : 0 ≤ (i : Int) := by omega
    have i1 : (i : Int) < ((refL st.m).length : Int) := by omega
    generalize (refL st.m)[i] = x at q0 q1 LK
    clear ha hb hR hC
    go_wp2_with fail
    go_ret2
    have e1 : st.get k = (st.next, x.2, 0) := by simp [Rem.get, HFE.out, FF.out.1, FF.out.2, LK.out]
    rw [e1]
    exact ⟨rfl, H1.out, F1.out⟩
def RListPost (w : World) (A : Nat → Prop) (g : Nat) (st : Rem) (e : Ending) (w' : World) : Prop := ∃ v, e = .returned (.tuple #[v, .int .i64 st.list.2]) ∧ Kd.string.R 9 w' w.heap.size (fun _ => True) v st.list.1 ∧ RfR w' A g (refL st.m) st.next.s st.next.n ∧ Frm A w w'
set_option maxHeartbeats 3200000 in
set_option maxRecDepth 100000 in
theorem rf_List (w : World) (A : Nat → Prop) (g : Nat) (st : Rem) (h : RfR w A g (refL st.m) st.s st.n) (hl : st.m.length ≤ 100000) (hn : (st.m.map (·.1)).Nodup) :
    Calls Try.prog 32 #[.pointer (some ⟨g, 0, none⟩)] w (RListPost w A g st) := by
  have HL := Aside0.mk (show (refL st.m).length ≤ 1000000 by rw [refL_length]; omega)
  have HN := Aside0.mk hn
  have HF := Aside0.mk (rf_fate w A g _ _ _ h)
  clear h hl hn
  obtain ⟨f, hf⟩ : ∃ f, st.s.headD 0 = f := ⟨_, rfl⟩
  rw [hf] at HF
  have HFE := Aside0.mk (show st.fate = f from hf)
  clear hf
  go_enter Try.func32, Try.ntmps32
  go_wp2_with fail
  refine HF.out.mono ?_
  rintro e w1 ⟨rfl, h1, f1⟩
  have H1 := Aside0.mk h1
  have F1 := Aside0.mk f1
  clear h1 f1 HF
  by_cases hf1 : f = 1
  · subst hf1
    go_wp2_with fail
    go_ret2
    have e1 : st.list = ([], 9) := by simp [Rem.list, HFE.out]
    unfold RListPost
    rw [e1]
    exact ⟨_, rfl, Kd.R_nil _ _ _ _ _, H1.out, F1.out⟩
  by_cases hf2 : f = 2
  · subst hf2
    go_wp2_with fail
    go_ret2
    have e1 : st.list = ([], 9) := by simp [Rem.list, HFE.out]
    unfold RListPost
    rw [e1]
    exact ⟨_, rfl, Kd.R_nil _ _ _ _ _, H1.out, F1.out⟩
  have b1 : (f == 1) = false := beq_eq_false_iff_ne.2 hf1
  have b2 : (f == 2) = false := beq_eq_false_iff_ne.2 hf2
  have b3 : (f != 1) = true := bne_iff_ne.2 hf1
  have b4 : decide (f = 1) = false := decide_eq_false hf1
  have FF := Aside0.mk (And.intro hf1 hf2)
  clear hf1 hf2
  obtain ⟨_, _, v, sv, hb, hR, _⟩ := H1.out
  obtain ⟨A0, c0', rfl, hc0, hC⟩ := Kd.R_reads hR
  have HB := Aside0.mk hb
  have HC := Aside0.mk hC
  clear hb hR hC
  obtain ⟨t0, t1, t2, fr⟩ := cells3 HB.out
  go_wp2_with fail
  go_loopw [5, 6] (fun v5 v6 wr => ∃ i : Nat, i ≤ (refL st.m).length ∧ v6 = .int .i64 i ∧ Aside0 (Kd.string.R 9 wr w1.heap.size (fun _ => True) v5 (((refL st.m).take i).map (·.1))) ∧ Aside0 (Below w1.heap.size w1 wr)) (fun _ v6 _ => (refL st.m).length - (intOf v6).toNat)
  case atStart => exact ⟨0, by omega, rfl, ⟨Kd.R_nil _ _ _ _ _⟩, ⟨Below.refl _ _⟩⟩
  case round =>
    obtain ⟨i, hi, rfl, HR, HW⟩ := hrel
    obtain ⟨A4, c4, rfl⟩ := Kd.R_slice HR.out
    obtain ⟨c0, c1, c2, fr⟩ := cells3 (blk_below HB.out HW.out)
    have hll := HL.out
    by_cases hlt : i < (refL st.m).length
    · have d1 : decide ((i : Int) < ((refL st.m).length : Int)) = true := decide_eq_true (by omega)
      have i0 : 0 ≤ (i : Int) := by omega
      have i1 : (i : Int) < ((refL st.m).length : Int) := by omega
      obtain ⟨ad, rfl, q0, q1⟩ := C_obAt (Kd.C_below HC.out HW.out) hlt
      have HS := Aside0.mk (by rw [List.take_succ_eq_append_getElem hlt, List.map_append]; rfl : ((refL st.m).take (i + 1)).map (·.1) = ((refL st.m).take i).map (·.1) ++ [(refL st.m)[i].1])
      have hyl : (((refL st.m).take i).map (·.1)).length ≤ i := by rw [List.length_map, List.length_take]; omega
      generalize (refL st.m)[i] = x at q0 q1 HS
      generalize ((refL st.m).take i).map (·.1) = Y at HR HS hyl ⊢
      go_wp2_with (at_builtin; refine Kd.R_append Kd.string (w0 := w1) w1.heap.size rfl (.tmp 24) (.tmp 33) 22 9 (.string ⟨#[]⟩) 16 rfl Try.underlying22 strinfo rfl (by decide) (by omega) (.slice A4 Y.length c4) Y x.1 [.string x.1] (fun _ => True) (fun _ => False) rfl rfl rfl (fun _ hk => hk.elim) (fun _ _ => trivial) HR.out HW.out HW.out.size (by omega) ?_; intro v1 w5 hR hB hg hat; obtain ⟨A6, c6, rfl⟩ := Kd.R_slice hR; have HR5 := Aside0.mk hR; have HB5 := Aside0.mk hB; clear hR hB hg hat)
      go_roundw
      case rel => exact ⟨i + 1, by omega, by go_num, ⟨by rw [HS.out]; simpa using HR5.out⟩, HB5⟩
      case measure => simp [intOf]; omega
    · have d1 : decide ((i : Int) < ((refL st.m).length : Int)) = false := decide_eq_false (by omega)
      have hii : i = (refL st.m).length := by omega
      subst hii
      rw [List.take_length, refL_names] at HR ⊢
      go_wp2_with fail
      go_ret2
      have e1 : st.list = (names st.m, 0) := by simp [Rem.list, HFE.out, FF.out.1, FF.out.2]
      unfold RListPost
      rw [e1]
      exact ⟨_, rfl, Kd.R_lower HR.out F1.out.size, H1.out.below HW.out, F1.out.andThen (Frm.of_new (S := None') HW.out) (fun _ x => x.elim)⟩
end Go.Proofs.Ytnkadkahdnnbbaa.Thw
