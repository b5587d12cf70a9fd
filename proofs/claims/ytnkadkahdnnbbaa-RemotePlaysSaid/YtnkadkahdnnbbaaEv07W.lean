/- Layer 7: the document's remote in memory, and what its calls do to it. -/
import Derived.Test.YtnkadkahdnnbbaaEv07D
namespace Go.Proofs.Ytnkadkahdnnbbaa.Thw
open Go Go.RowKit Go.Maps Go.Proofs.YtnkadkahdnnbbaaW.PrintWords Go.Proofs.YtnkadkahdnnbbaaW.PrintLast Go.Proofs.YtnkadkahdnnbbaaW.PrintMore
set_option linter.unusedVariables false
set_option linter.unusedSimpArgs false
abbrev kO : Kd (ByteArray × ByteArray) := Kd.pair Kd.string Kd.string
theorem infoO : (Try.prog.info? 91).map (fun i => (i.zero, i.size, i.bytes)) = some (some (.agg #[.string ⟨#[]⟩, .string ⟨#[]⟩]), 2, 32) := by kernel_rfl
theorem strinfo : (Try.prog.info? 9).map (fun i => (i.zero, i.size, i.bytes)) = some (some (.string ⟨#[]⟩), 1, 16) := by kernel_rfl
theorem kO_M (w : World) (base : Nat) (ok : Nat → Prop) (q : ByteArray × ByteArray) : kO.M w base ok q [.string q.1, .string q.2] := ⟨[.string q.1], [.string q.2], rfl, rfl, rfl⟩
theorem kO_KM {w : World} {base : Nat} {ok : Nat → Prop} {x : ByteArray × ByteArray} {cs : List Value} (h : kO.K w x cs) : kO.M w base ok x cs := h
theorem C_obAt {w : World} {A : Option Addr} {xs : List RObj} (h : kO.C w A xs.length xs) {k : Nat} (hk : k < xs.length) : ∃ ad, A = some ad ∧ w.cell? (ad.add (k * 2)) = some (.string xs[k].1) ∧ w.cell? ⟨(ad.add (k * 2)).block, (ad.add (k * 2)).off + 1, none⟩ = some (.string xs[k].2) := by
  obtain ⟨ad, c, e, hl, hK, hc⟩ := ReadsRow.get_ h ((⟨#[]⟩, ⟨#[]⟩) : RObj) (k : Int) (by omega) (by omega)
  obtain ⟨c1, c2, e2, h1, h2⟩ := hK
  have hx : xs.getD k (⟨#[]⟩, ⟨#[]⟩) = xs[k] := by simp [hk, List.getD_eq_getElem?_getD]
  have h1' : c1 = [Value.string (xs.getD k (⟨#[]⟩, ⟨#[]⟩)).1] := h1
  have h2' : c2 = [Value.string (xs.getD k (⟨#[]⟩, ⟨#[]⟩)).2] := h2
  rw [hx] at h1' h2'
  subst h1' h2' e2
  have hc' : ∀ (j : Nat) u, ([Value.string xs[k].1] ++ [Value.string xs[k].2])[j]? = some u → w.cell? (ad.add (k * 2 + j)) = some u := hc
  exact ⟨ad, e, hc' 0 _ rfl, by rw [← add_field _ _ 1 (by omega)]; exact hc' 1 _ rfl⟩
/-- The blocks behind a call. -/
def nA (A : Nat → Prop) (w w' : World) : Nat → Prop := fun k => gr A w k ∧ k < w'.heap.size
/-- The document's remote at block g. -/
structure RfR (w : World) (A : Nat → Prop) (g : Nat) (L : List RObj) (s : List Int) (n : Int) : Prop where
  own : A g
  old : ∀ k, A k → k < w.heap.size
  is : ∃ v sv, w.heap[g]? = some (.cells #[v, sv, .int .i64 n] 61) ∧ kO.R 91 w 0 (fun k => A k ∧ k ≠ g) v L ∧ (Kd.int .i64).Q 3 w 0 (fun k => A k ∧ k ≠ g) sv s
section
variable {w w' : World} {A S : Nat → Prop} {g : Nat} {L : List RObj} {s : List Int} {n : Int}
theorem RfR.frm (h : RfR w A g L s n) (hf : Frm S w w') (hn : ∀ k, k < w.heap.size → A k → ¬ S k) : RfR w' A g L s n := by
  obtain ⟨h1, h2, v, sv, h3, h4, h5⟩ := h
  exact ⟨h1, fun k hk => Nat.lt_of_lt_of_le (h2 k hk) hf.size, v, sv, hf.keeps h3 (hn _ (blk_lt h3) h1), Kd.R_step h4 (fun k hk hlt => hf.block k hlt (hn k hlt hk.1)), Kd.Q_step h5 (fun k hk hlt => hf.block k hlt (hn k hlt hk.1))⟩
theorem RfR.below (h : RfR w A g L s n) (hb : Below w.heap.size w w') : RfR w' A g L s n := h.frm (S := None') (Frm.of_new hb) (fun _ _ _ x => x)
theorem RfR.mono {A' : Nat → Prop} (h : RfR w A g L s n) (hA : ∀ k, A k → A' k) (ho : ∀ k, A' k → k < w.heap.size) : RfR w A' g L s n := by
  obtain ⟨h1, h2, v, sv, h3, h4, h5⟩ := h
  exact ⟨hA _ h1, ho, v, sv, h3, Kd.R_mono h4 (fun k hk => ⟨hA k hk.1, hk.2⟩), Kd.Q_mono h5 (fun k hk => ⟨hA k hk.1, hk.2⟩)⟩
/-- It has another row. -/
theorem RfR.turned {L' : List RObj} {w1 : World} (h : RfR w A g L s n) (hb : Below w.heap.size w w1) {v : Value} (hR : kO.R 91 w1 w.heap.size (fun _ => True) v L') : RfR (w1.setCell ⟨g, 0, none⟩ v) (nA A w (w1.setCell ⟨g, 0, none⟩ v)) g L' s n ∧ Frm A w (w1.setCell ⟨g, 0, none⟩ v) := by
  obtain ⟨h1, h2, v0, sv, h3, h4, h5⟩ := h
  have hlt := blk_lt h3
  have hg := blk_below h3 hb
  have hsz : (w1.setCell ⟨g, 0, none⟩ v).heap.size = w1.heap.size := by simp [World.setCell]
  refine ⟨⟨⟨Or.inl h1, by rw [hsz]; exact blk_lt hg⟩, fun k hk => hk.2, v, sv, by simpa using blk_set hg 0 v, ?_, ?_⟩, (Frm.of_new hb).setCell (Or.inl h1) _⟩
  · refine Kd.R_mono (Kd.R_far (Kd.R_bound (Kd.R_lower (Kd.R_mono (Kd.R_bound hR) (ok' := fun k => w.heap.size ≤ k) (fun k hk => hk.2.1)) (Nat.zero_le _))) (p := ⟨g, 0, none⟩) (fun k hk => by have := hk.1; show k ≠ g; omega) v) (fun k hk => ?_)
    exact ⟨⟨Or.inr hk.1, by rw [hsz]; exact hk.2.2.1⟩, by have := hk.1; omega⟩
  · refine Kd.Q_mono (Kd.Q_far (Kd.Q_bound (Kd.Q_below h5 hb)) (p := ⟨g, 0, none⟩) (fun k hk => hk.1.2) v) (fun k hk => ?_)
    exact ⟨⟨Or.inl hk.1.1, by rw [hsz]; exact hk.2.2.1⟩, hk.1.2⟩
end
set_option maxHeartbeats 3200000 in
set_option maxRecDepth 100000 in
theorem rf_fate (w : World) (A : Nat → Prop) (g : Nat) (L : List RObj) (s : List Int) (n : Int) (h : RfR w A g L s n) :
    Calls Try.prog 43 #[.pointer (some ⟨g, 0, none⟩)] w fun e w' => e = .returned (.int .i64 (s.headD 0)) ∧ RfR w' A g L s.tail (wrap64 (n + 1)) ∧ Frm A w w' := by
  obtain ⟨h1, h2, v, sv, hb, hR, hq⟩ := h
  have HB := Aside0.mk hb
  have HR := Aside0.mk hR
  have HQ := Aside0.mk hq
  have HO := Aside0.mk h2
  clear hb hR hq h2
  have hz : (w.setCell ⟨g, 2, none⟩ (.int .i64 (wrap64 (n + 1)))).heap.size = w.heap.size := by simp [World.setCell]
  have HB1 := Aside0.mk (show (w.setCell ⟨g, 2, none⟩ (.int .i64 (wrap64 (n + 1)))).heap[g]? = some (.cells #[v, sv, .int .i64 (wrap64 (n + 1))] 61) by simpa using blk_set HB.out 2 (.int .i64 (wrap64 (n + 1))))
  have HR1 := Aside0.mk (Kd.R_far HR.out (p := ⟨g, 2, none⟩) (fun k hk => hk.2) (.int .i64 (wrap64 (n + 1))))
  have HQ1 := Aside0.mk (Kd.Q_far HQ.out (p := ⟨g, 2, none⟩) (fun k hk => hk.2) (.int .i64 (wrap64 (n + 1))))
  have HF1 := Aside0.mk ((Frm.refl A w).setCell (p := ⟨g, 2, none⟩) (Or.inl h1) (.int .i64 (wrap64 (n + 1))))
  obtain ⟨c0, c1, c2, fr⟩ := cells3 HB.out
  cases s with
  | nil =>
    obtain ⟨sa, sc, rfl, _⟩ := Kd.Q_slice HQ.out
    simp only [List.length_nil] at c1
    go_enter Try.func43, Try.ntmps43
    go_wp2_with fail
    go_ret
    exact ⟨rfl, ⟨h1, fun k hk => by rw [hz]; exact HO.out k hk, v, _, HB1.out, HR1.out, HQ1.out⟩, HF1.out⟩
  | cons f l =>
    obtain ⟨gi, o, cap, A2, c2', rfl, hcell, hcut, hq2, hg, cs, hcs⟩ := first_of (A := fun k => A k ∧ k ≠ g) (by simpa using HQ1.out)
    have hlt : decide ((0 : Int) < (l.length : Int) + 1) = true := decide_eq_true (by omega)
    have hne0 : ((l.length : Int) + 1 == 0) = false := beq_eq_false_iff_ne.2 (by omega)
    go_enter Try.func43, Try.ntmps43
    go_wp2_with fail
    go_ret
    refine ⟨rfl, ⟨h1, fun k hk => ?_, v, _, by simpa using blk_set HB1.out 1 (.slice A2 l.length c2'), Kd.R_far HR1.out (p := ⟨g, 1, none⟩) (fun k hk => hk.2) _, Kd.Q_far hq2 (p := ⟨g, 1, none⟩) (fun k hk => hk.2) _⟩, HF1.out.setCell (p := ⟨g, 1, none⟩) (Or.inl h1) _⟩
    have := HO.out k hk
    simpa [World.setCell] using this
def AtPost (L : List RObj) (k : ByteArray) (w : World) (e : Ending) (w' : World) : Prop :=
  ((∀ x ∈ L, x.1 ≠ k) ∧ e = .returned (.int .i64 (-1)) ∨ ∃ (i : Nat) (h : i < L.length), L[i].1 = k ∧ e = .returned (.int .i64 i)) ∧ w = w'
theorem strNe {a b : ByteArray} (h : ¬ a = b) : (a.toList == b.toList) = false := beq_eq_false_iff_ne.2 (fun e => h (WideShapes.bytes_inj (by rw [← Lib.toList_data, ← Lib.toList_data]; exact e)))
theorem strEq {a b : ByteArray} (h : a = b) : (a.toList == b.toList) = true := by rw [h]; exact beq_self_eq_true _
set_option maxHeartbeats 3200000 in
set_option maxRecDepth 100000 in
theorem rf_at (w : World) (A : Nat → Prop) (g : Nat) (L : List RObj) (s : List Int) (n : Int) (h : RfR w A g L s n) (hl : L.length ≤ 1000000) (k : ByteArray) :
    Calls Try.prog 45 #[.pointer (some ⟨g, 0, none⟩), .string k] w (AtPost L k w) := by
  obtain ⟨h1, h2, v, sv, hb, hR, hq⟩ := h
  obtain ⟨A0, c0', rfl, hc0, hC⟩ := Kd.R_reads hR
  obtain ⟨c0, c1, c2, fr⟩ := cells3 hb
  have HC := Aside0.mk hC
  clear hR hq hb hC h1 h2
  go_enter Try.func45, Try.ntmps45
  go_wp2_with fail
  go_loopw [5] (fun v5 wr => ∃ i : Nat, i ≤ L.length ∧ v5 = .int .i64 i ∧ Aside0 (∀ j (h : j < L.length), j < i → L[j].1 ≠ k) ∧ wr = w) (fun v5 _ => L.length - (intOf v5).toNat)
  case atStart => exact ⟨0, by omega, rfl, ⟨fun j _ hj => by omega⟩, rfl⟩
  case round =>
    obtain ⟨i, hi, rfl, HA, rfl⟩ := hrel
    by_cases hlt : i < L.length
    · have d1 : decide ((i : Int) < (L.length : Int)) = true := decide_eq_true (by omega)
      have i0 : 0 ≤ (i : Int) := by omega
      have i1 : (i : Int) < (L.length : Int) := by omega
      obtain ⟨ad, rfl, q0, q1⟩ := C_obAt HC.out hlt
      obtain ⟨x, hx⟩ : ∃ x, L[i] = x := ⟨_, rfl⟩
      rw [hx] at q0 q1
      have HX := Aside0.mk hx
      clear hx
      by_cases he : x.1 = k
      · have e1 := strEq he
        have HE := Aside0.mk he
        clear he
        go_wp2_with fail
        go_ret
        exact ⟨Or.inr ⟨i, hlt, by rw [HX.out]; exact HE.out, rfl⟩, rfl⟩
      · have e1 := strNe he
        have HE := Aside0.mk he
        clear he
        go_wp2_with fail
        go_roundw
        case rel => exact ⟨i + 1, by omega, by go_num, ⟨fun j h hj => by
          rcases Nat.lt_succ_iff_lt_or_eq.1 hj with h3 | rfl
          · exact HA.out j h h3
          · rw [HX.out]; exact HE.out⟩, trivial⟩
        case measure => simp [intOf]; omega
    · have d1 : decide ((i : Int) < (L.length : Int)) = false := decide_eq_false (by omega)
      go_wp2_with fail
      go_ret
      exact ⟨Or.inl ⟨fun x hx => by
        obtain ⟨j, hj, rfl⟩ := List.mem_iff_getElem.1 hx
        exact HA.out j hj (by omega), rfl⟩, rfl⟩
theorem wo_succ (L : List RObj) (k : ByteArray) {i : Nat} (hi : i < L.length) : wo (L.take (i + 1)) k = if L[i].1 = k then wo (L.take i) k else wo (L.take i) k ++ [L[i]] := by
  unfold wo
  rw [List.take_succ_eq_append_getElem hi, List.filter_append, List.filter_cons]
  by_cases h : L[i].1 = k <;> simp [h]
theorem wo_len (L : List RObj) (k : ByteArray) : (wo L k).length ≤ L.length := List.length_filter_le _ _
def RPost (v : Value) (w : World) (A : Nat → Prop) (g : Nat) (L : List RObj) (s : List Int) (n : Int) (e : Ending) (w' : World) : Prop := e = .returned v ∧ RfR w' (nA A w w') g L s n ∧ Frm A w w'
set_option maxHeartbeats 3200000 in
set_option maxRecDepth 100000 in
theorem rf_without (w : World) (A : Nat → Prop) (g : Nat) (L : List RObj) (s : List Int) (n : Int) (h : RfR w A g L s n) (hl : L.length ≤ 1000000) (k : ByteArray) :
    Calls Try.prog 47 #[.pointer (some ⟨g, 0, none⟩), .string k] w (RPost (.tuple #[]) w A g (wo L k) s n) := by
  have H := Aside0.mk h
  obtain ⟨h1, h2, v, sv, hb, hR, hq⟩ := h
  obtain ⟨A0, c0', rfl, hc0, hC⟩ := Kd.R_reads hR
  have HC := Aside0.mk hC
  have HB := Aside0.mk hb
  have HLL := Aside0.mk hl
  clear hR hq hb hC h1 h2 hl
  go_enter Try.func47, Try.ntmps47
  go_wp2_with fail
  go_loopw [4, 5] (fun v4 v5 wr => ∃ i : Nat, i ≤ L.length ∧ v5 = .int .i64 i ∧ Aside0 (kO.R 91 wr w.heap.size (fun _ => True) v4 (wo (L.take i) k)) ∧ Aside0 (Below w.heap.size w wr)) (fun _ v5 _ => L.length - (intOf v5).toNat)
  case atStart => exact ⟨0, by omega, rfl, ⟨Kd.R_nil _ _ _ _ _⟩, ⟨Below.refl _ _⟩⟩
  case round =>
    obtain ⟨i, hi, rfl, HR, HW⟩ := hrel
    obtain ⟨A4, c4, rfl⟩ := Kd.R_slice HR.out
    obtain ⟨c0, c1, c2, fr⟩ := cells3 (blk_below HB.out HW.out)
    have hll := HLL.out
    by_cases hlt : i < L.length
    · have d1 : decide ((i : Int) < (L.length : Int)) = true := decide_eq_true (by omega)
      have i0 : 0 ≤ (i : Int) := by omega
      have i1 : (i : Int) < (L.length : Int) := by omega
      obtain ⟨ad, rfl, q0, q1⟩ := C_obAt (Kd.C_below HC.out HW.out) hlt
      have HS := Aside0.mk (wo_succ L k hlt)
      have hwl := wo_len (L.take i) k
      rw [List.length_take] at hwl
      generalize L[i] = x at q0 q1 HS
      by_cases he : x.1 = k
      · have e1 := strEq he
        have HS2 := Aside0.mk (HS.out.trans (if_pos he))
        clear he
        go_wp2_with fail
        go_roundw
        case rel => exact ⟨i + 1, by omega, by go_num, ⟨by rw [HS2.out]; exact HR.out⟩, HW⟩
        case measure => simp [intOf]; omega
      · have e1 := strNe he
        have HS2 := Aside0.mk (HS.out.trans (if_neg he))
        clear he
        generalize wo (L.take i) k = Y at HR HS2 hwl ⊢
        go_wp2_with (at_builtin; refine Kd.R_append kO (w0 := w) w.heap.size rfl (.tmp 25) (.tmp 33) 59 91 (.agg #[.string ⟨#[]⟩, .string ⟨#[]⟩]) 32 rfl Try.underlying59 infoO rfl (by decide) (by omega) (.slice A4 Y.length c4) Y x [.string x.1, .string x.2] (fun _ => True) (fun _ => False) rfl rfl (kO_M _ _ _ x) (fun _ hk => hk.elim) (fun _ _ => trivial) HR.out HW.out HW.out.size (by omega) ?_; intro v1 w5 hR hB hg hat; obtain ⟨A6, c6, rfl⟩ := Kd.R_slice hR; have HR5 := Aside0.mk hR; have HB5 := Aside0.mk hB; clear hR hB hg hat)
        go_roundw
        case rel => exact ⟨i + 1, by omega, by go_num, ⟨by rw [HS2.out]; simpa using HR5.out⟩, HB5⟩
        case measure => simp [intOf]; omega
    · have d1 : decide ((i : Int) < (L.length : Int)) = false := decide_eq_false (by omega)
      have hii : i = L.length := by omega
      subst hii
      rw [List.take_length] at HR ⊢
      have HT := Aside0.mk (H.out.turned HW.out HR.out)
      go_wp2_with fail
      go_end0
      exact ⟨rfl, HT.out.1, HT.out.2⟩
end Go.Proofs.Ytnkadkahdnnbbaa.Thw
