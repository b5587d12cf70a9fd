/- Several texts of mine in one (Ev07W, Ev07X, Ev07Y). -/
import Derived.Test.YtlnbekaldemebaaGreatDoorMR3
import Derived.Test.YtlnbekaldemebaaGreatDoorWTab
/-! ## Layer 7: the document's remote in memory, and what its calls do to it. -/
namespace Go.Proofs.YtlnbekaldemebaaGreatDoor.Thw
open Go Go.RowKit Go.Maps Go.Proofs.YtlnbekaldemebaaGreatDoorW.PrintWords Go.Proofs.YtlnbekaldemebaaGreatDoorW.PrintLast Go.Proofs.YtlnbekaldemebaaGreatDoorW.PrintMore
set_option linter.unusedVariables false
set_option linter.unusedSimpArgs false
abbrev kO : Kd (ByteArray × ByteArray) := Kd.pair Kd.string Kd.string
theorem infoO : (Tryz.prog.info? 137).map (fun i => (i.zero, i.size, i.bytes)) = some (some (.agg #[.string ⟨#[]⟩, .string ⟨#[]⟩]), 2, 32) := by kernel_rfl
theorem strinfo : (Tryz.prog.info? 9).map (fun i => (i.zero, i.size, i.bytes)) = some (some (.string ⟨#[]⟩), 1, 16) := by kernel_rfl
theorem kO_M (w : World) (base : Nat) (ok : Nat → Prop) (q : ByteArray × ByteArray) : kO.M w base ok q [.string q.1, .string q.2] := ⟨[.string q.1], [.string q.2], rfl, rfl, rfl⟩
theorem kO_KM {w : World} {base : Nat} {ok : Nat → Prop} {x : ByteArray × ByteArray} {cs : List Value} (h : kO.K w x cs) : kO.M w base ok x cs := h
theorem C_obAt {w : World} {A : Option Addr} {xs : List RObj} (h : kO.C w A xs.length xs) {k : Nat} (hk : k < xs.length) : ∃ ad, A = some ad ∧ w.cell? (ad.add (k * 2)) = some (.string xs[k].1) ∧ w.cell? ⟨(ad.add (k * 2)).block, (ad.add (k * 2)).off + 1, none⟩ = some (.string xs[k].2) := by
 obtain ⟨ad, c, e, hl, hK, hc⟩ := ReadsRow.get_ h ((⟨#[]⟩, ⟨#[]⟩) : RObj) (k : Int) (by omega) (by omega)
 obtain ⟨c1, c2, e2, h1, h2⟩ := hK
 have hx : xs.getD k (⟨#[]⟩, ⟨#[]⟩) = xs[k] := by simp [hk, List.getD_eq_getElem?_getD]
 have h1' : c1 = [Value.string (xs.getD k (⟨#[]⟩, ⟨#[]⟩)).1] := h1
 have h2' : c2 = [Value.string (xs.getD k (⟨#[]⟩, ⟨#[]⟩)).2] := h2
 rw [hx] at h1' h2'
 subst h1' h2' e2
 have hc' : ∀ (j : Nat) u, ([Value.string xs[k].1] ++ [Value.string xs[k].2])[j]? = some u → w.cell? (ad.add (k * 2 + j)) = some u := hc
 exact ⟨ad, e, hc' 0 _ rfl, by rw [← add_field _ _ 1 (by omega)]; exact hc' 1 _ rfl⟩
/-- The blocks behind a call. -/
def nA (A : Nat → Prop) (w w' : World) : Nat → Prop := fun k => gr A w k ∧ k < w'.heap.size
/-- The document's remote at block g. -/
structure RfR (w : World) (A : Nat → Prop) (g : Nat) (L : List RObj) (s : List Int) (n : Int) : Prop where
 own : A g
 old : ∀ k, A k → k < w.heap.size
 is : ∃ v sv, w.heap[g]? = some (.cells #[v, sv, .int .i64 n] 57) ∧ kO.R 137 w 0 (fun k => A k ∧ k ≠ g) v L ∧ (Kd.int .i64).Q 3 w 0 (fun k => A k ∧ k ≠ g) sv s
section
variable {w w' : World} {A S : Nat → Prop} {g : Nat} {L : List RObj} {s : List Int} {n : Int}
theorem RfR.frm (h : RfR w A g L s n) (hf : Frm S w w') (hn : ∀ k, k < w.heap.size → A k → ¬ S k) : RfR w' A g L s n := by
 obtain ⟨h1, h2, v, sv, h3, h4, h5⟩ := h
 exact ⟨h1, fun k hk => Nat.lt_of_lt_of_le (h2 k hk) hf.size, v, sv, hf.keeps h3 (hn _ (blk_lt h3) h1), Kd.R_step h4 (fun k hk hlt => hf.block k hlt (hn k hlt hk.1)), Kd.Q_step h5 (fun k hk hlt => hf.block k hlt (hn k hlt hk.1))⟩
theorem RfR.below (h : RfR w A g L s n) (hb : Below w.heap.size w w') : RfR w' A g L s n := h.frm (S := None') (Frm.of_new hb) (fun _ _ _ x => x)
theorem RfR.mono {A' : Nat → Prop} (h : RfR w A g L s n) (hA : ∀ k, A k → A' k) (ho : ∀ k, A' k → k < w.heap.size) : RfR w A' g L s n := by
 obtain ⟨h1, h2, v, sv, h3, h4, h5⟩ := h
 exact ⟨hA _ h1, ho, v, sv, h3, Kd.R_mono h4 (fun k hk => ⟨hA k hk.1, hk.2⟩), Kd.Q_mono h5 (fun k hk => ⟨hA k hk.1, hk.2⟩)⟩
/-- It has another row. -/
theorem RfR.turned {L' : List RObj} {w1 : World} (h : RfR w A g L s n) (hb : Below w.heap.size w w1) {v : Value} (hR : kO.R 137 w1 w.heap.size (fun _ => True) v L') : RfR (w1.setCell ⟨g, 0, none⟩ v) (nA A w (w1.setCell ⟨g, 0, none⟩ v)) g L' s n ∧ Frm A w (w1.setCell ⟨g, 0, none⟩ v) := by
 obtain ⟨h1, h2, v0, sv, h3, h4, h5⟩ := h
 have hlt := blk_lt h3
 have hg := blk_below h3 hb
 have hsz : (w1.setCell ⟨g, 0, none⟩ v).heap.size = w1.heap.size := by simp [World.setCell]
 refine ⟨⟨⟨Or.inl h1, by rw [hsz]; exact blk_lt hg⟩, fun k hk => hk.2, v, sv, by simpa using blk_set hg 0 v, ?_, ?_⟩, (Frm.of_new hb).setCell (Or.inl h1) _⟩
 ·refine Kd.R_mono (Kd.R_far (Kd.R_bound (Kd.R_lower (Kd.R_mono (Kd.R_bound hR) (ok' := fun k => w.heap.size ≤ k) (fun k hk => hk.2.1)) (Nat.zero_le _))) (p := ⟨g, 0, none⟩) (fun k hk => by have := hk.1; show k ≠ g; omega) v) (fun k hk => ?_)
  exact ⟨⟨Or.inr hk.1, by rw [hsz]; exact hk.2.2.1⟩, by have := hk.1; omega⟩
 ·refine Kd.Q_mono (Kd.Q_far (Kd.Q_bound (Kd.Q_below h5 hb)) (p := ⟨g, 0, none⟩) (fun k hk => hk.1.2) v) (fun k hk => ?_)
  exact ⟨⟨Or.inl hk.1.1, by rw [hsz]; exact hk.2.2.1⟩, hk.1.2⟩
end
set_option maxHeartbeats 3200000 in
set_option maxRecDepth 100000 in
theorem rf_fate (w : World) (A : Nat → Prop) (g : Nat) (L : List RObj) (s : List Int) (n : Int) (h : RfR w A g L s n) :
  Calls Tryz.prog 62 #[.pointer (some ⟨g, 0, none⟩)] w fun e w' => e = .returned (.int .i64 (s.headD 0)) ∧ RfR w' A g L s.tail (wrap64 (n + 1)) ∧ Frm A w w' := by
 obtain ⟨h1, h2, v, sv, hb, hR, hq⟩ := h
 have HB := Aside0.mk hb
 have HR := Aside0.mk hR
 have HQ := Aside0.mk hq
 have HO := Aside0.mk h2
 clear hb hR hq h2
 have hz : (w.setCell ⟨g, 2, none⟩ (.int .i64 (wrap64 (n + 1)))).heap.size = w.heap.size := by simp [World.setCell]
 have HB1 := Aside0.mk (show (w.setCell ⟨g, 2, none⟩ (.int .i64 (wrap64 (n + 1)))).heap[g]? = some (.cells #[v, sv, .int .i64 (wrap64 (n + 1))] 57) by simpa using blk_set HB.out 2 (.int .i64 (wrap64 (n + 1))))
 have HR1 := Aside0.mk (Kd.R_far HR.out (p := ⟨g, 2, none⟩) (fun k hk => hk.2) (.int .i64 (wrap64 (n + 1))))
 have HQ1 := Aside0.mk (Kd.Q_far HQ.out (p := ⟨g, 2, none⟩) (fun k hk => hk.2) (.int .i64 (wrap64 (n + 1))))
 have HF1 := Aside0.mk ((Frm.refl A w).setCell (p := ⟨g, 2, none⟩) (Or.inl h1) (.int .i64 (wrap64 (n + 1))))
 obtain ⟨c0, c1, c2, fr⟩ := cells3 HB.out
 cases s with
 | nil =>
  obtain ⟨sa, sc, rfl, _⟩ := Kd.Q_slice HQ.out
  simp only [List.length_nil] at c1
  go_enter Tryz.func62, Tryz.ntmps62
  go_wp2_with fail
  go_ret
  exact ⟨rfl, ⟨h1, fun k hk => by rw [hz]; exact HO.out k hk, v, _, HB1.out, HR1.out, HQ1.out⟩, HF1.out⟩
 | cons f l =>
  obtain ⟨gi, o, cap, A2, c2', rfl, hcell, hcut, hq2, hg, cs, hcs⟩ := first_of (A := fun k => A k ∧ k ≠ g) (by simpa using HQ1.out)
  have hlt : decide ((0 : Int) < (l.length : Int) + 1) = true := decide_eq_true (by omega)
  have hne0 : ((l.length : Int) + 1 == 0) = false := beq_eq_false_iff_ne.2 (by omega)
  go_enter Tryz.func62, Tryz.ntmps62
  go_wp2_with fail
  go_ret
  refine ⟨rfl, ⟨h1, fun k hk => ?_, v, _, by simpa using blk_set HB1.out 1 (.slice A2 l.length c2'), Kd.R_far HR1.out (p := ⟨g, 1, none⟩) (fun k hk => hk.2) _, Kd.Q_far hq2 (p := ⟨g, 1, none⟩) (fun k hk => hk.2) _⟩, HF1.out.setCell (p := ⟨g, 1, none⟩) (Or.inl h1) _⟩
  have := HO.out k hk
  simpa [World.setCell] using this
def AtPost (L : List RObj) (k : ByteArray) (w : World) (e : Ending) (w' : World) : Prop :=
 ((∀ x ∈ L, x.1 ≠ k) ∧ e = .returned (.int .i64 (-1)) ∨ ∃ (i : Nat) (h : i < L.length), L[i].1 = k ∧ e = .returned (.int .i64 i)) ∧ w = w'
theorem strNe {a b : ByteArray} (h : ¬ a = b) : (a.toList == b.toList) = false := beq_eq_false_iff_ne.2 (fun e => h (WideShapes.bytes_inj (by rw [← Lib.toList_data, ← Lib.toList_data]; exact e)))
theorem strEq {a b : ByteArray} (h : a = b) : (a.toList == b.toList) = true := by rw [h]; exact beq_self_eq_true _
set_option maxHeartbeats 3200000 in
set_option maxRecDepth 100000 in
theorem rf_at (w : World) (A : Nat → Prop) (g : Nat) (L : List RObj) (s : List Int) (n : Int) (h : RfR w A g L s n) (hl : L.length ≤ 1000000) (k : ByteArray) :
  Calls Tryz.prog 87 #[.pointer (some ⟨g, 0, none⟩), .string k] w (AtPost L k w) := by
 obtain ⟨h1, h2, v, sv, hb, hR, hq⟩ := h
 obtain ⟨A0, c0', rfl, hc0, hC⟩ := Kd.R_reads hR
 obtain ⟨c0, c1, c2, fr⟩ := cells3 hb
 have HC := Aside0.mk hC
 clear hR hq hb hC h1 h2
 go_enter Tryz.func87, Tryz.ntmps87
 go_wp2_with fail
 go_loopw [5] (fun v5 wr => ∃ i : Nat, i ≤ L.length ∧ v5 = .int .i64 i ∧ Aside0 (∀ j (h : j < L.length), j < i → L[j].1 ≠ k) ∧ wr = w) (fun v5 _ => L.length - (intOf v5).toNat)
 case atStart => exact ⟨0, by omega, rfl, ⟨fun j _ hj => by omega⟩, rfl⟩
 case round =>
  obtain ⟨i, hi, rfl, HA, rfl⟩ := hrel
  by_cases hlt : i < L.length
  ·have d1 : decide ((i : Int) < (L.length : Int)) = true := decide_eq_true (by omega)
   have i0 : 0 ≤ (i : Int) := by omega
   have i1 : (i : Int) < (L.length : Int) := by omega
   obtain ⟨ad, rfl, q0, q1⟩ := C_obAt HC.out hlt
   obtain ⟨x, hx⟩ : ∃ x, L[i] = x := ⟨_, rfl⟩
   rw [hx] at q0 q1
   have HX := Aside0.mk hx
   clear hx
   by_cases he : x.1 = k
   ·have e1 := strEq he
    have HE := Aside0.mk he
    clear he
    go_wp2_with fail
    go_ret
    exact ⟨Or.inr ⟨i, hlt, by rw [HX.out]; exact HE.out, rfl⟩, rfl⟩
   ·have e1 := strNe he
    have HE := Aside0.mk he
    clear he
    go_wp2_with fail
    go_roundw
    case rel => exact ⟨i + 1, by omega, by go_num, ⟨fun j h hj => by
     rcases Nat.lt_succ_iff_lt_or_eq.1 hj with h3 | rfl
     ·exact HA.out j h h3
     ·rw [HX.out]; exact HE.out⟩, trivial⟩
    case measure => simp [intOf]; omega
  ·have d1 : decide ((i : Int) < (L.length : Int)) = false := decide_eq_false (by omega)
   go_wp2_with fail
   go_ret
   exact ⟨Or.inl ⟨fun x hx => by
    obtain ⟨j, hj, rfl⟩ := List.mem_iff_getElem.1 hx
    exact HA.out j hj (by omega), rfl⟩, rfl⟩
theorem wo_succ (L : List RObj) (k : ByteArray) {i : Nat} (hi : i < L.length) : wo (L.take (i + 1)) k = if L[i].1 = k then wo (L.take i) k else wo (L.take i) k ++ [L[i]] := by
 unfold wo
 rw [List.take_succ_eq_append_getElem hi, List.filter_append, List.filter_cons]
 by_cases h : L[i].1 = k <;> simp [h]
theorem wo_len (L : List RObj) (k : ByteArray) : (wo L k).length ≤ L.length := List.length_filter_le _ _
def RPost (v : Value) (w : World) (A : Nat → Prop) (g : Nat) (L : List RObj) (s : List Int) (n : Int) (e : Ending) (w' : World) : Prop := e = .returned v ∧ RfR w' (nA A w w') g L s n ∧ Frm A w w'
set_option maxHeartbeats 3200000 in
set_option maxRecDepth 100000 in
theorem rf_without (w : World) (A : Nat → Prop) (g : Nat) (L : List RObj) (s : List Int) (n : Int) (h : RfR w A g L s n) (hl : L.length ≤ 1000000) (k : ByteArray) :
  Calls Tryz.prog 65 #[.pointer (some ⟨g, 0, none⟩), .string k] w (RPost (.tuple #[]) w A g (wo L k) s n) := by
 have H := Aside0.mk h
 obtain ⟨h1, h2, v, sv, hb, hR, hq⟩ := h
 obtain ⟨A0, c0', rfl, hc0, hC⟩ := Kd.R_reads hR
 have HC := Aside0.mk hC
 have HB := Aside0.mk hb
 have HLL := Aside0.mk hl
 clear hR hq hb hC h1 h2 hl
 go_enter Tryz.func65, Tryz.ntmps65
 go_wp2_with fail
 go_loopw [4, 5] (fun v4 v5 wr => ∃ i : Nat, i ≤ L.length ∧ v5 = .int .i64 i ∧ Aside0 (kO.R 137 wr w.heap.size (fun _ => True) v4 (wo (L.take i) k)) ∧ Aside0 (Below w.heap.size w wr)) (fun _ v5 _ => L.length - (intOf v5).toNat)
 case atStart => exact ⟨0, by omega, rfl, ⟨Kd.R_nil _ _ _ _ _⟩, ⟨Below.refl _ _⟩⟩
 case round =>
  obtain ⟨i, hi, rfl, HR, HW⟩ := hrel
  obtain ⟨A4, c4, rfl⟩ := Kd.R_slice HR.out
  obtain ⟨c0, c1, c2, fr⟩ := cells3 (blk_below HB.out HW.out)
  have hll := HLL.out
  by_cases hlt : i < L.length
  ·have d1 : decide ((i : Int) < (L.length : Int)) = true := decide_eq_true (by omega)
   have i0 : 0 ≤ (i : Int) := by omega
   have i1 : (i : Int) < (L.length : Int) := by omega
   obtain ⟨ad, rfl, q0, q1⟩ := C_obAt (Kd.C_below HC.out HW.out) hlt
   have HS := Aside0.mk (wo_succ L k hlt)
   have hwl := wo_len (L.take i) k
   rw [List.length_take] at hwl
   generalize L[i] = x at q0 q1 HS
   by_cases he : x.1 = k
   ·have e1 := strEq he
    have HS2 := Aside0.mk (HS.out.trans (if_pos he))
    clear he
    go_wp2_with fail
    go_roundw
    case rel => exact ⟨i + 1, by omega, by go_num, ⟨by rw [HS2.out]; exact HR.out⟩, HW⟩
    case measure => simp [intOf]; omega
   ·have e1 := strNe he
    have HS2 := Aside0.mk (HS.out.trans (if_neg he))
    clear he
    generalize wo (L.take i) k = Y at HR HS2 hwl ⊢
    go_wp2_with (at_builtin; refine Kd.R_append kO (w0 := w) w.heap.size rfl (.tmp 25) (.tmp 33) 55 137 (.agg #[.string ⟨#[]⟩, .string ⟨#[]⟩]) 32 rfl Tryz.underlying55 infoO rfl (by decide) (by omega) (.slice A4 Y.length c4) Y x [.string x.1, .string x.2] (fun _ => True) (fun _ => False) rfl rfl (kO_M _ _ _ x) (fun _ hk => hk.elim) (fun _ _ => trivial) HR.out HW.out HW.out.size (by omega) ?_; intro v1 w5 hR hB hg hat; obtain ⟨A6, c6, rfl⟩ := Kd.R_slice hR; have HR5 := Aside0.mk hR; have HB5 := Aside0.mk hB; clear hR hB hg hat)
    go_roundw
    case rel => exact ⟨i + 1, by omega, by go_num, ⟨by rw [HS2.out]; simpa using HR5.out⟩, HB5⟩
    case measure => simp [intOf]; omega
  ·have d1 : decide ((i : Int) < (L.length : Int)) = false := decide_eq_false (by omega)
   have hii : i = L.length := by omega
   subst hii
   rw [List.take_length] at HR ⊢
   have HT := Aside0.mk (H.out.turned HW.out HR.out)
   go_wp2_with fail
   go_end0
   exact ⟨rfl, HT.out.1, HT.out.2⟩
end Go.Proofs.YtlnbekaldemebaaGreatDoor.Thw
/-! ## Layer 7: the document's lay. -/
namespace Go.Proofs.YtlnbekaldemebaaGreatDoor.Thw
open Go Go.RowKit Go.Maps Go.Proofs.YtlnbekaldemebaaGreatDoorW.PrintWords Go.Proofs.YtlnbekaldemebaaGreatDoorW.PrintLast Go.Proofs.YtlnbekaldemebaaGreatDoorW.PrintMore
set_option linter.unusedVariables false
set_option linter.unusedSimpArgs false
theorem wi_at (x : RObj) : ∀ (L : List RObj) (i : Nat), (∀ j (h : j < L.length), j < i → slB L[j].1 x.1 = true) → (∀ h : i < L.length, slB L[i].1 x.1 = false) → i ≤ L.length → L.take i ++ [x] ++ L.drop i = wi L x
 | [], i, _, _, h => by simp at h; subst h; rfl
 | y :: L, 0, _, h, _ => by
  have h0 : slB y.1 x.1 = false := h (by simp)
  unfold wi
  rw [List.takeWhile_cons, if_neg (by rw [h0]; decide), List.dropWhile_cons, if_neg (by rw [h0]; decide)]
  rfl
 | y :: L, i + 1, hj, h, hi => by
  have h0 : slB y.1 x.1 = true := hj 0 (by simp) (by omega)
  have ih := wi_at x L i (fun j hl hlt => hj (j + 1) (by simpa using hl) (by omega)) (fun hl => h (by simpa using hl)) (by simpa using hi)
  unfold wi at ih ⊢
  rw [List.takeWhile_cons, if_pos h0, List.dropWhile_cons, if_pos h0, List.cons_append, ← ih]
  rfl
/-- A row cut in two, as the walk spells it. -/
theorem cut_two {P : Program} {α : Type} {d : Kd α} {w : World} {A : Option Addr} {L : List α} {c : Nat} (t e : TypeId) {z : Value} {bytes : Nat} (ht : P.underlying t = some (.slice e)) (hinfo : (P.info? e).map (fun i => (i.zero, i.size, i.bytes)) = some (some z, d.sz, bytes))
  (h : d.C w A L.length L) (hc : L.length ≤ c) (i : Nat) (hi : i ≤ L.length) :
  ∃ A1 c1 A2 c2, (∀ W : World, (Instr.slice t (.slice A L.length c) none (some (.int .i64 (i : Int))) none).run P W = .ok (.slice A1 (L.take i).length c1) W) ∧ d.C w A1 (L.take i).length (L.take i) ∧
   (∀ W : World, (Instr.slice t (.slice A L.length c) (some (.int .i64 (i : Int))) none none).run P W = .ok (.slice A2 (L.drop i).length c2) W) ∧ d.C w A2 (L.drop i).length (L.drop i) := by
 obtain ⟨i0, hi0, hzz⟩ := Option.map_eq_some_iff.1 hinfo
 simp only [Prod.mk.injEq] at hzz
 obtain ⟨hz0, hz1, hz2⟩ := hzz
 have h1 := cut_to (P := P) t e .i64 ht hi0 A L.length c (i : Int) (by omega) (by omega) hc
 have h2 := cut_from (P := P) t e .i64 ht hi0 d.sz hz1 A L.length c (i : Int) (by omega) (by omega)
 have e1 : (L.take i).length = (i : Int).toNat := by rw [List.length_take]; omega
 have e2 : (L.drop i).length = L.length - (i : Int).toNat := by rw [List.length_drop]; omega
 refine ⟨A, c, (if c = i then A else A.map (·.add (i * d.sz))), c - i, ?_, Kd.C_take h hi, ?_, Kd.C_drop h hi hc⟩
 ·rw [e1]; exact h1
 ·rw [e2]; exact h2
def lay4T : Bool × List (List Nat × List Nat) := (true, [([], []), ([], []), ([], []), ([2], [2]), ([3], [3]), ([4], [4]), ([], []), ([5, 6], [5, 6]), ([1, 7], [1, 7]), ([], []), ([], []), ([9, 10], [9, 10]), ([11], [11]), ([8, 12, 8], [8, 12]), ([], []), ([14], [14]), ([15], [15]), ([16], [16]), ([], []), ([17, 18], [17, 18]), ([13, 19, 13], [13, 19]), ([0, 0, 1, 2, 3, 4, 5, 6, 7, 8, 9, 10, 11, 12, 13, 14, 15, 16, 17, 18, 19, 20], [0]), ([21, 0, 1, 2, 3, 4, 5, 6, 7, 8, 9, 10, 11, 12, 13, 14, 15, 16, 17, 18, 19, 20], [21]), ([22, 20, 20, 0, 1, 2, 3, 4, 5, 6, 7, 8, 9, 10, 11, 12, 13, 14, 15, 16, 17, 18, 19, 20], [20, 22])])
def lay4B : List Nat := [0, 0, 0, 4, 12, 28, 0, 124, 254, 0, 0, 1536, 3584, 8190, 0, 16384, 49152, 114688, 0, 507904, 1048574, 2097151, 4194303, 8388607]
theorem lay4tab : rtab .any (opsOf Tryz.f63 4) = lay4T := by kernel_rfl
theorem lay4bits : waitsOk lay4T.2 lay4B = true := by kernel_rfl
set_option maxHeartbeats 6400000 in
set_option maxRecDepth 100000 in
theorem rf_lay (w : World) (A : Nat → Prop) (g : Nat) (L : List RObj) (s : List Int) (n : Int) (h : RfR w A g L s n) (hl : L.length ≤ 1000000) (k b : ByteArray) :
  Calls Tryz.prog 63 #[.pointer (some ⟨g, 0, none⟩), .string k, .string b] w (RPost (.tuple #[]) w A g (wi (wo L k) (k, b)) s n) := by
 have H := Aside0.mk h
 have HL := Aside0.mk hl
 clear h hl
 go_enter Tryz.func63, Tryz.ntmps63
 go_wp2_with fail
 refine (rf_without w A g L s n H.out HL.out k).mono ?_
 rintro e w1 ⟨rfl, h1, f1⟩
 have H1 := Aside0.mk h1
 have F1 := Aside0.mk f1
 have HY := Aside0.mk (Nat.le_trans (wo_len L k) HL.out)
 obtain ⟨X, hX⟩ : ∃ X, wo L k = X := ⟨_, rfl⟩
 rw [hX] at h1 H1 HY
 have HXE := Aside0.mk hX
 clear hX
 obtain ⟨_, _, v, sv, hb, hR, _⟩ := h1
 obtain ⟨A0, c0', rfl, hc0, hC⟩ := Kd.R_reads hR
 have HB := Aside0.mk hb
 have HC := Aside0.mk hC
 clear hR hb hC f1
 obtain ⟨t0, t1, t2, fr⟩ := cells3 HB.out
 go_wp2_with fail
 go_loopw [6] (fun v6 wr => ∃ i : Nat, i ≤ X.length ∧ v6 = .int .i64 i ∧ Aside0 (∀ j (h : j < X.length), j < i → slB X[j].1 k = true) ∧ wr = w1) (fun v6 _ => X.length - (intOf v6).toNat)
 case atStart => exact ⟨0, by omega, rfl, ⟨fun j _ hj => by omega⟩, rfl⟩
 case round =>
  obtain ⟨i, hi, rfl, HA, rfl⟩ := hrel
  have hxl := HY.out
  by_cases hlt : i < X.length
  ·have d1 : decide ((i : Int) < (X.length : Int)) = true := decide_eq_true (by omega)
   have i0 : 0 ≤ (i : Int) := by omega
   have i1 : (i : Int) < (X.length : Int) := by omega
   obtain ⟨ad, rfl, q0, q1⟩ := C_obAt HC.out hlt
   obtain ⟨x, hx⟩ : ∃ x, X[i] = x := ⟨_, rfl⟩
   rw [hx] at q0 q1
   have HX := Aside0.mk hx
   clear hx
   cases hbl : Op.bytesLess x.1.toList k.toList with
   | true =>
    have HA2 := Aside0.mk (show ∀ j (h : j < X.length), j < i + 1 → slB X[j].1 k = true from fun j h hj => by
     rcases Nat.lt_succ_iff_lt_or_eq.1 hj with h3 | rfl
     ·exact HA.out j h h3
     ·rw [HX.out]; exact hbl)
    go_wp2_with fail
    go_roundw
    case rel => exact ⟨i + 1, by omega, by go_num, HA2, trivial⟩
    case measure => simp [intOf]; omega
   | false =>
    have HWI := Aside0.mk (wi_at (k, b) X i HA.out (fun _ => by rw [HX.out]; exact hbl) hi)
    go_wp2_with fail
    clear q0 q1
    obtain ⟨A1, c1, A2, c2, hcut1, hCT, hcut2, hCD⟩ := cut_two (P := Tryz.prog) 55 137 Tryz.underlying55 infoO HC.out hc0 i hi
    obtain ⟨n1, hn1⟩ : ∃ n_ : Nat, (X.take i).length = n_ := ⟨_, rfl⟩
    obtain ⟨n2, hn2⟩ : ∃ n_ : Nat, (X.drop i).length = n_ := ⟨_, rfl⟩
    rw [hn1] at hcut1 hCT
    rw [hn2] at hcut2 hCD
    have HN1 := Aside0.mk (show n1 ≤ 1000000 by rw [← hn1, List.length_take]; have := HY.out; omega)
    have HN2 := Aside0.mk (show n2 ≤ 1000000 by rw [← hn2, List.length_drop]; have := HY.out; omega)
    clear hn1 hn2
    have CT := Aside0.mk hCT
    have CD := Aside0.mk hCD
    clear hCT hCD t0 t1 t2 fr
    refine region_draw (n := 24) (S := fun W => Below wr.heap.size wr W) (ds := [23]) #[false, false, false, false, false, false, false, false, false, false, false, false, false, false, false, false, false, false, false, false, false, false, false, false] (by kernel_rfl) rfl rfl (fun W => Below wr.heap.size wr W) ((Below.refl _ _).drew) (fun W h => h) ?_
    rintro ws hws
    refine with_tabW lay4tab lay4bits (fun HT_ HW_ => ?_)
    have BS := Aside0.mk hws
    clear hws
    refine pure_ (i := 0) (N := some 31) (v := ?_) (a' := ?_) #[true, false, false, false, false, false, false, false, false, false, false, false, false, false, false, false, false, false, false, false, false, false, false, false] rfl rfl (any_of HT_.out (by kernel_rfl)) (fun _ _ _ h => h) (Or.inl ⟨by rfl, ?_⟩) ?_ ?_
    rotate_left
    ·intro w'
     go_simp
     with_reducible rfl
    rotate_left
    ·simp only [Act.put, List.setIfInBounds_toArray, List.set_cons_zero, List.set_cons_succ, i64_w, i32_w]
     rfl
    refine pure_ (i := 2) (N := some 33) (v := ?_) (a' := ?_) #[true, false, true, false, false, false, false, false, false, false, false, false, false, false, false, false, false, false, false, false, false, false, false, false] rfl rfl (any_of HT_.out (by kernel_rfl)) (fun _ _ _ h => h) (Or.inl ⟨by rfl, ?_⟩) ?_ ?_
    rotate_left
    ·intro w'
     go_simp
     with_reducible rfl
    rotate_left
    ·simp only [Act.put, List.setIfInBounds_toArray, List.set_cons_zero, List.set_cons_succ, i64_w, i32_w]
     rfl
    refine pure_ (i := 3) (N := some 34) (v := ?_) (a' := ?_) #[true, false, true, true, false, false, false, false, false, false, false, false, false, false, false, false, false, false, false, false, false, false, false, false] rfl rfl (any_of HT_.out (by kernel_rfl)) (fun _ _ _ h => h) (Or.inl ⟨by rfl, ?_⟩) ?_ ?_
    rotate_left
    ·intro w'
     go_simp
     with_reducible rfl
    rotate_left
    ·simp only [Act.put, List.setIfInBounds_toArray, List.set_cons_zero, List.set_cons_succ, i64_w, i32_w]
     rfl
    refine pure_ (i := 4) (N := some 35) (v := ?_) (a' := ?_) #[true, false, true, true, true, false, false, false, false, false, false, false, false, false, false, false, false, false, false, false, false, false, false, false] rfl rfl (any_of HT_.out (by kernel_rfl)) (fun _ _ _ h => h) (Or.inl ⟨by rfl, ?_⟩) ?_ ?_
    rotate_left
    ·intro w'
     go_simp
     with_reducible rfl
    rotate_left
    ·simp only [Act.put, List.setIfInBounds_toArray, List.set_cons_zero, List.set_cons_succ, i64_w, i32_w]
     rfl
    refine take_ (i := 5) (N := some 36) (v := ?_) (a' := ?_) #[true, false, true, true, true, true, false, false, false, false, false, false, false, false, false, false, false, false, false, false, false, false, false, false] rfl rfl (take_ofW HT_.out HW_.out (by kernel_rfl)) (fun _ _ _ h => h) (Or.inl ⟨by rfl, ?_⟩) BS.out ?_ ?_
    rotate_left
    ·intro w' hW
     obtain ⟨t0, t1, t2, fr⟩ := cells3 (blk_below HB.out hW)
     go_simp
     with_reducible rfl
    rotate_left
    ·simp only [Act.put, List.setIfInBounds_toArray, List.set_cons_zero, List.set_cons_succ, i64_w, i32_w]
     rfl
    refine pure_ (i := 6) (N := some 37) (v := ?_) (a' := ?_) #[true, false, true, true, true, true, true, false, false, false, false, false, false, false, false, false, false, false, false, false, false, false, false, false] rfl rfl (any_of HT_.out (by kernel_rfl)) (fun _ _ _ h => h) (Or.inl ⟨by rfl, ?_⟩) ?_ ?_
    rotate_left
    ·intro w'
     go_simp
     with_reducible rfl
    rotate_left
    ·simp only [Act.put, List.setIfInBounds_toArray, List.set_cons_zero, List.set_cons_succ, i64_w, i32_w]
     rfl
    refine pure_ (i := 7) (N := some 38) (v := ?_) (a' := ?_) #[true, false, true, true, true, true, true, true, false, false, false, false, false, false, false, false, false, false, false, false, false, false, false, false] rfl rfl (any_of HT_.out (by kernel_rfl)) (fun _ _ _ h => h) (Or.inl ⟨by rfl, ?_⟩) ?_ ?_
    rotate_left
    ·intro w'
     go_simp
     with_reducible rfl
    rotate_left
    ·simp only [Act.put, List.setIfInBounds_toArray, List.set_cons_zero, List.set_cons_succ, i64_w, i32_w]
     rfl
    refine pure_ (i := 9) (N := some 40) (v := ?_) (a' := ?_) #[true, false, true, true, true, true, true, true, false, true, false, false, false, false, false, false, false, false, false, false, false, false, false, false] rfl rfl (any_of HT_.out (by kernel_rfl)) (fun _ _ _ h => h) (Or.inl ⟨by rfl, ?_⟩) ?_ ?_
    rotate_left
    ·intro w'
     go_simp
     with_reducible rfl
    rotate_left
    ·simp only [Act.put, List.setIfInBounds_toArray, List.set_cons_zero, List.set_cons_succ, i64_w, i32_w]
     rfl
    refine pure_ (i := 10) (N := some 41) (v := ?_) (a' := ?_) #[true, false, true, true, true, true, true, true, false, true, true, false, false, false, false, false, false, false, false, false, false, false, false, false] rfl rfl (any_of HT_.out (by kernel_rfl)) (fun _ _ _ h => h) (Or.inl ⟨by rfl, ?_⟩) ?_ ?_
    rotate_left
    ·intro w'
     go_simp
     with_reducible rfl
    rotate_left
    ·simp only [Act.put, List.setIfInBounds_toArray, List.set_cons_zero, List.set_cons_succ, i64_w, i32_w]
     rfl
    refine pure_ (i := 11) (N := some 42) (v := ?_) (a' := ?_) #[true, false, true, true, true, true, true, true, false, true, true, true, false, false, false, false, false, false, false, false, false, false, false, false] rfl rfl (any_of HT_.out (by kernel_rfl)) (fun _ _ _ h => h) (Or.inl ⟨by rfl, ?_⟩) ?_ ?_
    rotate_left
    ·intro w'
     go_simp
     with_reducible rfl
    rotate_left
    ·simp only [Act.put, List.setIfInBounds_toArray, List.set_cons_zero, List.set_cons_succ, i64_w, i32_w]
     rfl
    refine pure_ (i := 14) (N := some 45) (v := ?_) (a' := ?_) #[true, false, true, true, true, true, true, true, false, true, true, true, false, false, true, false, false, false, false, false, false, false, false, false] rfl rfl (any_of HT_.out (by kernel_rfl)) (fun _ _ _ h => h) (Or.inl ⟨by rfl, ?_⟩) ?_ ?_
    rotate_left
    ·intro w'
     go_simp
     with_reducible rfl
    rotate_left
    ·simp only [Act.put, List.setIfInBounds_toArray, List.set_cons_zero, List.set_cons_succ, i64_w, i32_w]
     rfl
    refine pure_ (i := 15) (N := some 46) (v := ?_) (a' := ?_) #[true, false, true, true, true, true, true, true, false, true, true, true, false, false, true, true, false, false, false, false, false, false, false, false] rfl rfl (any_of HT_.out (by kernel_rfl)) (fun _ _ _ h => h) (Or.inl ⟨by rfl, ?_⟩) ?_ ?_
    rotate_left
    ·intro w'
     go_simp
     with_reducible rfl
    rotate_left
    ·simp only [Act.put, List.setIfInBounds_toArray, List.set_cons_zero, List.set_cons_succ, i64_w, i32_w]
     rfl
    refine pure_ (i := 16) (N := some 47) (v := ?_) (a' := ?_) #[true, false, true, true, true, true, true, true, false, true, true, true, false, false, true, true, true, false, false, false, false, false, false, false] rfl rfl (any_of HT_.out (by kernel_rfl)) (fun _ _ _ h => h) (Or.inl ⟨by rfl, ?_⟩) ?_ ?_
    rotate_left
    ·intro w'
     go_simp
     with_reducible rfl
    rotate_left
    ·simp only [Act.put, List.setIfInBounds_toArray, List.set_cons_zero, List.set_cons_succ, i64_w, i32_w]
     rfl
    refine take_ (i := 17) (N := some 48) (v := ?_) (a' := ?_) #[true, false, true, true, true, true, true, true, false, true, true, true, false, false, true, true, true, true, false, false, false, false, false, false] rfl rfl (take_ofW HT_.out HW_.out (by kernel_rfl)) (fun _ _ _ h => h) (Or.inl ⟨by rfl, ?_⟩) BS.out ?_ ?_
    rotate_left
    ·intro w' hW
     obtain ⟨t0, t1, t2, fr⟩ := cells3 (blk_below HB.out hW)
     go_simp
     with_reducible rfl
    rotate_left
    ·simp only [Act.put, List.setIfInBounds_toArray, List.set_cons_zero, List.set_cons_succ, i64_w, i32_w]
     rfl
    refine pure_ (i := 18) (N := some 49) (v := ?_) (a' := ?_) #[true, false, true, true, true, true, true, true, false, true, true, true, false, false, true, true, true, true, true, false, false, false, false, false] rfl rfl (any_of HT_.out (by kernel_rfl)) (fun _ _ _ h => h) (Or.inl ⟨by rfl, ?_⟩) ?_ ?_
    rotate_left
    ·intro w'
     go_simp
     with_reducible rfl
    rotate_left
    ·simp only [Act.put, List.setIfInBounds_toArray, List.set_cons_zero, List.set_cons_succ, i64_w, i32_w]
     rfl
    refine pure_ (i := 19) (N := some 50) (v := ?_) (a' := ?_) #[true, false, true, true, true, true, true, true, false, true, true, true, false, false, true, true, true, true, true, true, false, false, false, false] rfl rfl (any_of HT_.out (by kernel_rfl)) (fun _ _ _ h => h) (Or.inl ⟨by rfl, ?_⟩) ?_ ?_
    rotate_left
    ·intro w'
     go_simp
     with_reducible rfl
    rotate_left
    ·simp only [Act.put, List.setIfInBounds_toArray, List.set_cons_zero, List.set_cons_succ, i64_w, i32_w]
     rfl
    refine join_ (σ := Value × Value × Value) 5 #[true, true, true, true, true, true, true, true, true, true, true, true, true, false, true, true, true, true, true, true, false, false, false, false] (fun s_ => [(32, s_.1), (39, s_.2.1), (43, s_.2.2)]) (fun s_ w' => Aside0 (Below wr.heap.size wr w') ∧ Aside0 (kO.R 137 w' wr.heap.size (fun _ => True) s_.2.1 (X.take i)) ∧ ∃ A_ c_, s_.2.2 = .slice A_ 1 c_ ∧ Aside0 (kO.C w' A_ 1 [(k, b)])) ?_ ?_
    rotate_left
    ·intro hCont
     refine two_ (i := 1) (j := 12) (Ni := some 32) (Nj := some 43) #[true, true, true, true, true, true, true, true, false, true, true, true, false, false, true, true, true, true, true, true, false, false, false, false] #[true, false, true, true, true, true, true, true, false, true, true, true, true, false, true, true, true, true, true, true, false, false, false, false] rfl rfl rfl rfl (two_of HT_.out (by kernel_rfl)) (by decide) (by decide) (fun K hK => ?_) (fun K hK => ?_)
     ·skip
      refine Kd.R_lit_step kO (w0 := wr) wr.heap.size 137 ?hg (N := 32) ?hd (xs := []) (inner := []) (ok := (fun _ => True)) (okp := fun _ => False) ?hr (Reps.none _ _) (fun _ hk => hk.elim) trivial BS.out BS.out.size (by simp) ?_; (case hd => rfl); (case hg => rfl); (case hr => first | (go_simp; done) | (go_simp; rfl))
      intro v0 w5 hR0 hB0 hg0 hat0
      have B5 := Aside0.mk hB0
      have R5 := Aside0.mk hR0
      clear hR0 hB0 hg0 hat0
      refine hK.out _ _ B5.out (fun _ => ?_)
      clear hK K
      refine norm_ (a' := ?_) ?_ ?_
      rotate_left
      ·show Act.put _ (some 32) _ = _
       simp only [Act.put, List.setIfInBounds_toArray, List.set_cons_zero, List.set_cons_succ, i64_w, i32_w]
       rfl
      refine two_ (i := 8) (j := 12) (Ni := some 39) (Nj := some 43) #[true, true, true, true, true, true, true, true, true, true, true, true, false, false, true, true, true, true, true, true, false, false, false, false] #[true, true, true, true, true, true, true, true, false, true, true, true, true, false, true, true, true, true, true, true, false, false, false, false] rfl rfl rfl rfl (two_of HT_.out (by kernel_rfl)) (by decide) (by decide) (fun K hK => ?_) (fun K hK => ?_)
      ·skip
       refine Kd.R_append_rows_step kO (w0 := wr) wr.heap.size (by rfl) (.tmp 32) (.tmp 38) 55 137 (.agg #[.string ⟨#[]⟩, .string ⟨#[]⟩]) 32 rfl Tryz.underlying55 infoO rfl (by decide) (by omega) v0 [] (X.take i) A1 n1 c1 (fun _ => True) (fun _ => False) rfl rfl R5.out (Kd.C_below CT.out B5.out) (fun x cs h => kO_KM h) (fun _ h => h.elim) (fun _ _ => trivial) B5.out B5.out.size (by have h1 := HN1.out; have h2 := HN2.out; have h3 := HY.out; simp; omega) ?_
       intro v1 w6 hR hB hg hat
       have B6 := Aside0.mk hB
       have R6 := Aside0.mk hR
       clear hR hB hg hat R5 B5
       refine hK.out _ _ B6.out (fun _ => ?_)
       clear hK K
       refine norm_ (a' := ?_) ?_ ?_
       rotate_left
       ·show Act.put _ (some 39) _ = _
        simp only [Act.put, List.setIfInBounds_toArray, List.set_cons_zero, List.set_cons_succ, i64_w, i32_w]
        rfl
       refine one_ (i := 12) (N := some 43) #[true, true, true, true, true, true, true, true, true, true, true, true, true, false, true, true, true, true, true, true, false, false, false, false] rfl rfl (one_of HT_.out (by kernel_rfl)) (by decide) (fun K hK => ?_)
       refine Kd.R_lit_step kO (w0 := wr) wr.heap.size 137 ?hg (N := 43) ?hd (xs := [(k, b)]) (inner := [.string k, .string b]) (ok := (fun _ => True)) (okp := fun _ => False) ?hr ?hp (fun _ hk => hk.elim) trivial B6.out B6.out.size (by simp) ?_; (case hd => rfl); (case hg => rfl); (case hr => first | (go_simp; done) | (go_simp; rfl)); (case hp => exact (Reps.c2 (kO_M _ _ _ (k, b)) (Reps.none _ _)))
       intro v2 w7 hR hB hg hat
       obtain ⟨A_, c_, rfl, _, hC_⟩ := Kd.R_reads hR
       have B7 := Aside0.mk hB
       have R7 := Aside0.mk (Kd.R_below R6.out ⟨hg.os, hg.tape, hg.output, hg.size, fun k hk => hg.block k hk (by simp)⟩)
       have C7 := Aside0.mk hC_
       clear hR hB hg hat hC_ R6 B6
       refine hK.out _ _ B7.out (fun _ => ?_)
       clear hK K
       refine norm_ (a' := ?_) ?_ ?_
       rotate_left
       ·show Act.put _ (some 43) _ = _
        simp only [Act.put, List.setIfInBounds_toArray, List.set_cons_zero, List.set_cons_succ, i64_w, i32_w]
        rfl
       exact hCont (_, _, _) _ ⟨B7, R7, A_, c_, rfl, C7⟩
      ·skip
       refine Kd.R_lit_step kO (w0 := wr) wr.heap.size 137 ?hg (N := 43) ?hd (xs := [(k, b)]) (inner := [.string k, .string b]) (ok := (fun k => some k ≠ v0.ownBlock)) (okp := fun _ => False) ?hr ?hp (fun _ hk => hk.elim) (fun e => by have := Kd.R_lt R5.out _ e.symm; omega) B5.out B5.out.size (by simp) ?_; (case hd => rfl); (case hg => rfl); (case hr => first | (go_simp; done) | (go_simp; rfl)); (case hp => exact (Reps.c2 (kO_M _ _ _ (k, b)) (Reps.none _ _)))
       intro v2 w6 hR hB hg hat
       have B6 := Aside0.mk hB
       have R6 := Aside0.mk (Kd.R_below R5.out ⟨hg.os, hg.tape, hg.output, hg.size, fun k hk => hg.block k hk (by simp)⟩)
       have V6 := Aside0.mk hR
       clear hR hB hg hat R5 B5
       refine hK.out _ _ B6.out (fun _ => ?_)
       clear hK K
       refine norm_ (a' := ?_) ?_ ?_
       rotate_left
       ·show Act.put _ (some 43) _ = _
        simp only [Act.put, List.setIfInBounds_toArray, List.set_cons_zero, List.set_cons_succ, i64_w, i32_w]
        rfl
       refine one_ (i := 8) (N := some 39) #[true, true, true, true, true, true, true, true, true, true, true, true, true, false, true, true, true, true, true, true, false, false, false, false] rfl rfl (one_of HT_.out (by kernel_rfl)) (by decide) (fun K hK => ?_)
       refine Kd.R_append_rows_step kO (w0 := wr) wr.heap.size (by rfl) (.tmp 32) (.tmp 38) 55 137 (.agg #[.string ⟨#[]⟩, .string ⟨#[]⟩]) 32 rfl Tryz.underlying55 infoO rfl (by decide) (by omega) v0 [] (X.take i) A1 n1 c1 (fun _ => True) (fun _ => False) rfl rfl R6.out (Kd.C_below CT.out B6.out) (fun x cs h => kO_KM h) (fun _ h => h.elim) (fun _ _ => trivial) B6.out B6.out.size (by have h1 := HN1.out; have h2 := HN2.out; have h3 := HY.out; simp; omega) ?_
       intro v1 w7 hR hB hg hat
       obtain ⟨A_, c_, rfl, _, hC_⟩ := Kd.R_reads (Kd.R_grown V6.out hg (fun _ h => h))
       have B7 := Aside0.mk hB
       have R7 := Aside0.mk hR
       have C7 := Aside0.mk hC_
       clear hR hB hg hat hC_ R6 B6 V6
       refine hK.out _ _ B7.out (fun _ => ?_)
       clear hK K
       refine norm_ (a' := ?_) ?_ ?_
       rotate_left
       ·show Act.put _ (some 39) _ = _
        simp only [Act.put, List.setIfInBounds_toArray, List.set_cons_zero, List.set_cons_succ, i64_w, i32_w]
        rfl
       exact hCont (_, _, _) _ ⟨B7, R7, A_, c_, rfl, C7⟩
     ·skip
      refine Kd.R_lit_step kO (w0 := wr) wr.heap.size 137 ?hg (N := 43) ?hd (xs := [(k, b)]) (inner := [.string k, .string b]) (ok := (fun _ => True)) (okp := fun _ => False) ?hr ?hp (fun _ hk => hk.elim) trivial BS.out BS.out.size (by simp) ?_; (case hd => rfl); (case hg => rfl); (case hr => first | (go_simp; done) | (go_simp; rfl)); (case hp => exact (Reps.c2 (kO_M _ _ _ (k, b)) (Reps.none _ _)))
      intro v2 w5 hR hB hg hat
      have B5 := Aside0.mk hB
      have V5 := Aside0.mk hR
      clear hR hB hg hat
      refine hK.out _ _ B5.out (fun _ => ?_)
      clear hK K
      refine norm_ (a' := ?_) ?_ ?_
      rotate_left
      ·show Act.put _ (some 43) _ = _
       simp only [Act.put, List.setIfInBounds_toArray, List.set_cons_zero, List.set_cons_succ, i64_w, i32_w]
       rfl
      refine one_ (i := 1) (N := some 32) #[true, true, true, true, true, true, true, true, false, true, true, true, true, false, true, true, true, true, true, true, false, false, false, false] rfl rfl (one_of HT_.out (by kernel_rfl)) (by decide) (fun K hK => ?_)
      refine Kd.R_lit_step kO (w0 := wr) wr.heap.size 137 ?hg (N := 32) ?hd (xs := []) (inner := []) (ok := (fun _ => True)) (okp := fun _ => False) ?hr (Reps.none _ _) (fun _ hk => hk.elim) trivial B5.out B5.out.size (by simp) ?_; (case hd => rfl); (case hg => rfl); (case hr => first | (go_simp; done) | (go_simp; rfl))
      intro v0 w6 hR hB hg hat
      obtain ⟨b_, hb_, hb2_⟩ := hat
      have B6 := Aside0.mk hB
      have R6 := Aside0.mk hR
      have V6 := Aside0.mk (Kd.R_mono (Kd.R_below (Kd.R_bound V5.out) ⟨hg.os, hg.tape, hg.output, hg.size, fun k hk => hg.block k hk (by simp)⟩) (ok' := fun k => some k ≠ v0.ownBlock) (fun k hk e => by rw [hb_] at e; injection e with e; have := hk.2.2.1; omega))
      clear hR hB hg hb_ hb2_ B5 V5
      refine hK.out _ _ B6.out (fun _ => ?_)
      clear hK K
      refine norm_ (a' := ?_) ?_ ?_
      rotate_left
      ·show Act.put _ (some 32) _ = _
       simp only [Act.put, List.setIfInBounds_toArray, List.set_cons_zero, List.set_cons_succ, i64_w, i32_w]
       rfl
      refine one_ (i := 8) (N := some 39) #[true, true, true, true, true, true, true, true, true, true, true, true, true, false, true, true, true, true, true, true, false, false, false, false] rfl rfl (one_of HT_.out (by kernel_rfl)) (by decide) (fun K hK => ?_)
      refine Kd.R_append_rows_step kO (w0 := wr) wr.heap.size (by rfl) (.tmp 32) (.tmp 38) 55 137 (.agg #[.string ⟨#[]⟩, .string ⟨#[]⟩]) 32 rfl Tryz.underlying55 infoO rfl (by decide) (by omega) v0 [] (X.take i) A1 n1 c1 (fun _ => True) (fun _ => False) rfl rfl R6.out (Kd.C_below CT.out B6.out) (fun x cs h => kO_KM h) (fun _ h => h.elim) (fun _ _ => trivial) B6.out B6.out.size (by have h1 := HN1.out; have h2 := HN2.out; have h3 := HY.out; simp; omega) ?_
      intro v1 w7 hR hB hg hat
      obtain ⟨A_, c_, rfl, _, hC_⟩ := Kd.R_reads (Kd.R_grown V6.out hg (fun _ h => h))
      have B7 := Aside0.mk hB
      have R7 := Aside0.mk hR
      have C7 := Aside0.mk hC_
      clear hR hB hg hat hC_ R6 B6 V6
      refine hK.out _ _ B7.out (fun _ => ?_)
      clear hK K
      refine norm_ (a' := ?_) ?_ ?_
      rotate_left
      ·show Act.put _ (some 39) _ = _
       simp only [Act.put, List.setIfInBounds_toArray, List.set_cons_zero, List.set_cons_succ, i64_w, i32_w]
       rfl
      exact hCont (_, _, _) _ ⟨B7, R7, A_, c_, rfl, C7⟩
    rintro ⟨v0, v1, v2⟩ w7 ⟨B7, R7, A_, c_, hv_, C7⟩
    simp only at R7 hv_
    subst hv_
    refine norm_ (a' := ?_) ?_ ?_
    rotate_left
    ·simp only [putAll, List.foldl_cons, List.foldl_nil, Act.put, List.setIfInBounds_toArray, List.set_cons_zero, List.set_cons_succ]
     rfl
    refine one_ (i := 13) (N := some 44) #[true, true, true, true, true, true, true, true, true, true, true, true, true, true, true, true, true, true, true, true, false, false, false, false] rfl rfl (one_of HT_.out (by kernel_rfl)) (by decide) (fun K hK => ?_)
    refine Kd.R_append_rows_step kO (w0 := wr) wr.heap.size (by rfl) (.tmp 39) (.tmp 43) 55 137 (.agg #[.string ⟨#[]⟩, .string ⟨#[]⟩]) 32 rfl Tryz.underlying55 infoO rfl (by decide) (by omega) v1 (X.take i) [(k, b)] A_ 1 c_ (fun _ => True) (fun _ => False) rfl rfl R7.out C7.out (fun x cs h => kO_KM h) (fun _ h => h.elim) (fun _ _ => trivial) B7.out B7.out.size (by have h1 := HN1.out; have h2 := HN2.out; have h3 := HY.out; simp; omega) ?_
    intro v3 w8 hR hB hg hat
    have B8 := Aside0.mk hB
    have R8 := Aside0.mk hR
    clear hR hB hg hat B7 R7 C7
    refine hK.out _ _ B8.out (fun _ => ?_)
    clear hK K
    refine norm_ (a' := ?_) ?_ ?_
    rotate_left
    ·show Act.put _ (some 44) _ = _
     simp only [Act.put, List.setIfInBounds_toArray, List.set_cons_zero, List.set_cons_succ, i64_w, i32_w]
     rfl
    refine one_ (i := 20) (N := some 51) #[true, true, true, true, true, true, true, true, true, true, true, true, true, true, true, true, true, true, true, true, true, false, false, false] rfl rfl (one_of HT_.out (by kernel_rfl)) (by decide) (fun K hK => ?_)
    refine Kd.R_append_rows_step kO (w0 := wr) wr.heap.size (by rfl) (.tmp 44) (.tmp 50) 55 137 (.agg #[.string ⟨#[]⟩, .string ⟨#[]⟩]) 32 rfl Tryz.underlying55 infoO rfl (by decide) (by omega) v3 ((X.take i) ++ [(k, b)]) (X.drop i) A2 n2 c2 (fun _ => True) (fun _ => False) rfl rfl R8.out (Kd.C_below CD.out B8.out) (fun x cs h => kO_KM h) (fun _ h => h.elim) (fun _ _ => trivial) B8.out B8.out.size (by have h1 := HN1.out; have h2 := HN2.out; have h3 := HY.out; simp; omega) ?_
    intro v4 w9 hR hB hg hat
    have B9 := Aside0.mk hB
    have R9 := Aside0.mk hR
    clear hR hB hg hat B8 R8
    refine hK.out _ _ B9.out (fun _ => ?_)
    clear hK K
    refine norm_ (a' := ?_) ?_ ?_
    rotate_left
    ·show Act.put _ (some 51) _ = _
     simp only [Act.put, List.setIfInBounds_toArray, List.set_cons_zero, List.set_cons_succ, i64_w, i32_w]
     rfl
    refine pure_ (i := 21) (N := some 52) (v := ?_) (a' := ?_) #[true, true, true, true, true, true, true, true, true, true, true, true, true, true, true, true, true, true, true, true, true, true, false, false] rfl rfl (any_of HT_.out (by kernel_rfl)) (fun _ _ _ h => h) (Or.inl ⟨by rfl, ?_⟩) ?_ ?_
    rotate_left
    ·intro w'
     go_simp
     with_reducible rfl
    rotate_left
    ·simp only [Act.put, List.setIfInBounds_toArray, List.set_cons_zero, List.set_cons_succ, i64_w, i32_w]
     rfl
    refine pure_ (i := 22) (N := some 53) (v := ?_) (a' := ?_) #[true, true, true, true, true, true, true, true, true, true, true, true, true, true, true, true, true, true, true, true, true, true, true, false] rfl rfl (any_of HT_.out (by kernel_rfl)) (fun _ _ _ h => h) (Or.inl ⟨by rfl, ?_⟩) ?_ ?_
    rotate_left
    ·intro w'
     go_simp
     with_reducible rfl
    rotate_left
    ·simp only [Act.put, List.setIfInBounds_toArray, List.set_cons_zero, List.set_cons_succ, i64_w, i32_w]
     rfl
    refine last_ (i := 23) (N := none) #[true, true, true, true, true, true, true, true, true, true, true, true, true, true, true, true, true, true, true, true, true, true, true, true] rfl rfl (one_of HT_.out (by kernel_rfl)) (by decide) (fun K hK => ?_)
    obtain ⟨A9, c9, rfl⟩ := Kd.R_slice R9.out
    generalize (X.take i ++ [(k, b)] ++ X.drop i).length = n9 at R9 ⊢
    obtain ⟨t0, t1, t2, fr⟩ := cells3 (blk_below HB.out B9.out)
    refine skip_ (w1 := ?_) (by rfl) rfl ?_ ?_
    rotate_left
    ·go_simp
     rfl
    refine hK.out _ _ ?_
    clear hK K
    refine done_ (done_of HT_.out (by kernel_rfl)) ?_
    clear t0 t1 t2 fr
    have hT := H1.out.turned B9.out R9.out
    rw [HWI.out] at hT
    have HT := Aside0.mk hT
    clear hT
    go_wp2_with fail
    go_end0
    rw [HXE.out]
    refine ⟨rfl, HT.out.1.mono (fun k hk => ⟨hk.1.elim (fun x => x.1) (fun x => Or.inr (Nat.le_trans F1.out.size x)), hk.2⟩) (fun k hk => hk.2), F1.out.andThen HT.out.2 (fun i hi => hi.1)⟩
  ·have d1 : decide ((i : Int) < (X.length : Int)) = false := decide_eq_false (by omega)
   have hii : i = X.length := by omega
   subst hii
   have HWI := Aside0.mk (wi_at (k, b) X X.length HA.out (fun hh => by omega) hi)
   go_wp2_with fail
   obtain ⟨A1, c1, A2, c2, hcut1, hCT, hcut2, hCD⟩ := cut_two (P := Tryz.prog) 55 137 Tryz.underlying55 infoO HC.out hc0 X.length hi
   obtain ⟨n1, hn1⟩ : ∃ n_ : Nat, (X.take X.length).length = n_ := ⟨_, rfl⟩
   obtain ⟨n2, hn2⟩ : ∃ n_ : Nat, (X.drop X.length).length = n_ := ⟨_, rfl⟩
   rw [hn1] at hcut1 hCT
   rw [hn2] at hcut2 hCD
   have HN1 := Aside0.mk (show n1 ≤ 1000000 by rw [← hn1, List.length_take]; have := HY.out; omega)
   have HN2 := Aside0.mk (show n2 ≤ 1000000 by rw [← hn2, List.length_drop]; have := HY.out; omega)
   clear hn1 hn2
   have CT := Aside0.mk hCT
   have CD := Aside0.mk hCD
   clear hCT hCD t0 t1 t2 fr
   refine region_draw (n := 24) (S := fun W => Below wr.heap.size wr W) (ds := [23]) #[false, false, false, false, false, false, false, false, false, false, false, false, false, false, false, false, false, false, false, false, false, false, false, false] (by kernel_rfl) rfl rfl (fun W => Below wr.heap.size wr W) ((Below.refl _ _).drew) (fun W h => h) ?_
   rintro ws hws
   refine with_tabW lay4tab lay4bits (fun HT_ HW_ => ?_)
   have BS := Aside0.mk hws
   clear hws
   refine pure_ (i := 0) (N := some 31) (v := ?_) (a' := ?_) #[true, false, false, false, false, false, false, false, false, false, false, false, false, false, false, false, false, false, false, false, false, false, false, false] rfl rfl (any_of HT_.out (by kernel_rfl)) (fun _ _ _ h => h) (Or.inl ⟨by rfl, ?_⟩) ?_ ?_
   rotate_left
   ·intro w'
    go_simp
    with_reducible rfl
   rotate_left
   ·simp only [Act.put, List.setIfInBounds_toArray, List.set_cons_zero, List.set_cons_succ, i64_w, i32_w]
    rfl
   refine pure_ (i := 2) (N := some 33) (v := ?_) (a' := ?_) #[true, false, true, false, false, false, false, false, false, false, false, false, false, false, false, false, false, false, false, false, false, false, false, false] rfl rfl (any_of HT_.out (by kernel_rfl)) (fun _ _ _ h => h) (Or.inl ⟨by rfl, ?_⟩) ?_ ?_
   rotate_left
   ·intro w'
    go_simp
    with_reducible rfl
   rotate_left
   ·simp only [Act.put, List.setIfInBounds_toArray, List.set_cons_zero, List.set_cons_succ, i64_w, i32_w]
    rfl
   refine pure_ (i := 3) (N := some 34) (v := ?_) (a' := ?_) #[true, false, true, true, false, false, false, false, false, false, false, false, false, false, false, false, false, false, false, false, false, false, false, false] rfl rfl (any_of HT_.out (by kernel_rfl)) (fun _ _ _ h => h) (Or.inl ⟨by rfl, ?_⟩) ?_ ?_
   rotate_left
   ·intro w'
    go_simp
    with_reducible rfl
   rotate_left
   ·simp only [Act.put, List.setIfInBounds_toArray, List.set_cons_zero, List.set_cons_succ, i64_w, i32_w]
    rfl
   refine pure_ (i := 4) (N := some 35) (v := ?_) (a' := ?_) #[true, false, true, true, true, false, false, false, false, false, false, false, false, false, false, false, false, false, false, false, false, false, false, false] rfl rfl (any_of HT_.out (by kernel_rfl)) (fun _ _ _ h => h) (Or.inl ⟨by rfl, ?_⟩) ?_ ?_
   rotate_left
   ·intro w'
    go_simp
    with_reducible rfl
   rotate_left
   ·simp only [Act.put, List.setIfInBounds_toArray, List.set_cons_zero, List.set_cons_succ, i64_w, i32_w]
    rfl
   refine take_ (i := 5) (N := some 36) (v := ?_) (a' := ?_) #[true, false, true, true, true, true, false, false, false, false, false, false, false, false, false, false, false, false, false, false, false, false, false, false] rfl rfl (take_ofW HT_.out HW_.out (by kernel_rfl)) (fun _ _ _ h => h) (Or.inl ⟨by rfl, ?_⟩) BS.out ?_ ?_
   rotate_left
   ·intro w' hW
    obtain ⟨t0, t1, t2, fr⟩ := cells3 (blk_below HB.out hW)
    go_simp
    with_reducible rfl
   rotate_left
   ·simp only [Act.put, List.setIfInBounds_toArray, List.set_cons_zero, List.set_cons_succ, i64_w, i32_w]
    rfl
   refine pure_ (i := 6) (N := some 37) (v := ?_) (a' := ?_) #[true, false, true, true, true, true, true, false, false, false, false, false, false, false, false, false, false, false, false, false, false, false, false, false] rfl rfl (any_of HT_.out (by kernel_rfl)) (fun _ _ _ h => h) (Or.inl ⟨by rfl, ?_⟩) ?_ ?_
   rotate_left
   ·intro w'
    go_simp
    with_reducible rfl
   rotate_left
   ·simp only [Act.put, List.setIfInBounds_toArray, List.set_cons_zero, List.set_cons_succ, i64_w, i32_w]
    rfl
   refine pure_ (i := 7) (N := some 38) (v := ?_) (a' := ?_) #[true, false, true, true, true, true, true, true, false, false, false, false, false, false, false, false, false, false, false, false, false, false, false, false] rfl rfl (any_of HT_.out (by kernel_rfl)) (fun _ _ _ h => h) (Or.inl ⟨by rfl, ?_⟩) ?_ ?_
   rotate_left
   ·intro w'
    go_simp
    with_reducible rfl
   rotate_left
   ·simp only [Act.put, List.setIfInBounds_toArray, List.set_cons_zero, List.set_cons_succ, i64_w, i32_w]
    rfl
   refine pure_ (i := 9) (N := some 40) (v := ?_) (a' := ?_) #[true, false, true, true, true, true, true, true, false, true, false, false, false, false, false, false, false, false, false, false, false, false, false, false] rfl rfl (any_of HT_.out (by kernel_rfl)) (fun _ _ _ h => h) (Or.inl ⟨by rfl, ?_⟩) ?_ ?_
   rotate_left
   ·intro w'
    go_simp
    with_reducible rfl
   rotate_left
   ·simp only [Act.put, List.setIfInBounds_toArray, List.set_cons_zero, List.set_cons_succ, i64_w, i32_w]
    rfl
   refine pure_ (i := 10) (N := some 41) (v := ?_) (a' := ?_) #[true, false, true, true, true, true, true, true, false, true, true, false, false, false, false, false, false, false, false, false, false, false, false, false] rfl rfl (any_of HT_.out (by kernel_rfl)) (fun _ _ _ h => h) (Or.inl ⟨by rfl, ?_⟩) ?_ ?_
   rotate_left
   ·intro w'
    go_simp
    with_reducible rfl
   rotate_left
   ·simp only [Act.put, List.setIfInBounds_toArray, List.set_cons_zero, List.set_cons_succ, i64_w, i32_w]
    rfl
   refine pure_ (i := 11) (N := some 42) (v := ?_) (a' := ?_) #[true, false, true, true, true, true, true, true, false, true, true, true, false, false, false, false, false, false, false, false, false, false, false, false] rfl rfl (any_of HT_.out (by kernel_rfl)) (fun _ _ _ h => h) (Or.inl ⟨by rfl, ?_⟩) ?_ ?_
   rotate_left
   ·intro w'
    go_simp
    with_reducible rfl
   rotate_left
   ·simp only [Act.put, List.setIfInBounds_toArray, List.set_cons_zero, List.set_cons_succ, i64_w, i32_w]
    rfl
   refine pure_ (i := 14) (N := some 45) (v := ?_) (a' := ?_) #[true, false, true, true, true, true, true, true, false, true, true, true, false, false, true, false, false, false, false, false, false, false, false, false] rfl rfl (any_of HT_.out (by kernel_rfl)) (fun _ _ _ h => h) (Or.inl ⟨by rfl, ?_⟩) ?_ ?_
   rotate_left
   ·intro w'
    go_simp
    with_reducible rfl
   rotate_left
   ·simp only [Act.put, List.setIfInBounds_toArray, List.set_cons_zero, List.set_cons_succ, i64_w, i32_w]
    rfl
   refine pure_ (i := 15) (N := some 46) (v := ?_) (a' := ?_) #[true, false, true, true, true, true, true, true, false, true, true, true, false, false, true, true, false, false, false, false, false, false, false, false] rfl rfl (any_of HT_.out (by kernel_rfl)) (fun _ _ _ h => h) (Or.inl ⟨by rfl, ?_⟩) ?_ ?_
   rotate_left
   ·intro w'
    go_simp
    with_reducible rfl
   rotate_left
   ·simp only [Act.put, List.setIfInBounds_toArray, List.set_cons_zero, List.set_cons_succ, i64_w, i32_w]
    rfl
   refine pure_ (i := 16) (N := some 47) (v := ?_) (a' := ?_) #[true, false, true, true, true, true, true, true, false, true, true, true, false, false, true, true, true, false, false, false, false, false, false, false] rfl rfl (any_of HT_.out (by kernel_rfl)) (fun _ _ _ h => h) (Or.inl ⟨by rfl, ?_⟩) ?_ ?_
   rotate_left
   ·intro w'
    go_simp
    with_reducible rfl
   rotate_left
   ·simp only [Act.put, List.setIfInBounds_toArray, List.set_cons_zero, List.set_cons_succ, i64_w, i32_w]
    rfl
   refine take_ (i := 17) (N := some 48) (v := ?_) (a' := ?_) #[true, false, true, true, true, true, true, true, false, true, true, true, false, false, true, true, true, true, false, false, false, false, false, false] rfl rfl (take_ofW HT_.out HW_.out (by kernel_rfl)) (fun _ _ _ h => h) (Or.inl ⟨by rfl, ?_⟩) BS.out ?_ ?_
   rotate_left
   ·intro w' hW
    obtain ⟨t0, t1, t2, fr⟩ := cells3 (blk_below HB.out hW)
    go_simp
    with_reducible rfl
   rotate_left
   ·simp only [Act.put, List.setIfInBounds_toArray, List.set_cons_zero, List.set_cons_succ, i64_w, i32_w]
    rfl
   refine pure_ (i := 18) (N := some 49) (v := ?_) (a' := ?_) #[true, false, true, true, true, true, true, true, false, true, true, true, false, false, true, true, true, true, true, false, false, false, false, false] rfl rfl (any_of HT_.out (by kernel_rfl)) (fun _ _ _ h => h) (Or.inl ⟨by rfl, ?_⟩) ?_ ?_
   rotate_left
   ·intro w'
    go_simp
    with_reducible rfl
   rotate_left
   ·simp only [Act.put, List.setIfInBounds_toArray, List.set_cons_zero, List.set_cons_succ, i64_w, i32_w]
    rfl
   refine pure_ (i := 19) (N := some 50) (v := ?_) (a' := ?_) #[true, false, true, true, true, true, true, true, false, true, true, true, false, false, true, true, true, true, true, true, false, false, false, false] rfl rfl (any_of HT_.out (by kernel_rfl)) (fun _ _ _ h => h) (Or.inl ⟨by rfl, ?_⟩) ?_ ?_
   rotate_left
   ·intro w'
    go_simp
    with_reducible rfl
   rotate_left
   ·simp only [Act.put, List.setIfInBounds_toArray, List.set_cons_zero, List.set_cons_succ, i64_w, i32_w]
    rfl
   refine join_ (σ := Value × Value × Value) 5 #[true, true, true, true, true, true, true, true, true, true, true, true, true, false, true, true, true, true, true, true, false, false, false, false] (fun s_ => [(32, s_.1), (39, s_.2.1), (43, s_.2.2)]) (fun s_ w' => Aside0 (Below wr.heap.size wr w') ∧ Aside0 (kO.R 137 w' wr.heap.size (fun _ => True) s_.2.1 (X.take X.length)) ∧ ∃ A_ c_, s_.2.2 = .slice A_ 1 c_ ∧ Aside0 (kO.C w' A_ 1 [(k, b)])) ?_ ?_
   rotate_left
   ·intro hCont
    refine two_ (i := 1) (j := 12) (Ni := some 32) (Nj := some 43) #[true, true, true, true, true, true, true, true, false, true, true, true, false, false, true, true, true, true, true, true, false, false, false, false] #[true, false, true, true, true, true, true, true, false, true, true, true, true, false, true, true, true, true, true, true, false, false, false, false] rfl rfl rfl rfl (two_of HT_.out (by kernel_rfl)) (by decide) (by decide) (fun K hK => ?_) (fun K hK => ?_)
    ·skip
     refine Kd.R_lit_step kO (w0 := wr) wr.heap.size 137 ?hg (N := 32) ?hd (xs := []) (inner := []) (ok := (fun _ => True)) (okp := fun _ => False) ?hr (Reps.none _ _) (fun _ hk => hk.elim) trivial BS.out BS.out.size (by simp) ?_; (case hd => rfl); (case hg => rfl); (case hr => first | (go_simp; done) | (go_simp; rfl))
     intro v0 w5 hR0 hB0 hg0 hat0
     have B5 := Aside0.mk hB0
     have R5 := Aside0.mk hR0
     clear hR0 hB0 hg0 hat0
     refine hK.out _ _ B5.out (fun _ => ?_)
     clear hK K
     refine norm_ (a' := ?_) ?_ ?_
     rotate_left
     ·show Act.put _ (some 32) _ = _
      simp only [Act.put, List.setIfInBounds_toArray, List.set_cons_zero, List.set_cons_succ, i64_w, i32_w]
      rfl
     refine two_ (i := 8) (j := 12) (Ni := some 39) (Nj := some 43) #[true, true, true, true, true, true, true, true, true, true, true, true, false, false, true, true, true, true, true, true, false, false, false, false] #[true, true, true, true, true, true, true, true, false, true, true, true, true, false, true, true, true, true, true, true, false, false, false, false] rfl rfl rfl rfl (two_of HT_.out (by kernel_rfl)) (by decide) (by decide) (fun K hK => ?_) (fun K hK => ?_)
     ·skip
      refine Kd.R_append_rows_step kO (w0 := wr) wr.heap.size (by rfl) (.tmp 32) (.tmp 38) 55 137 (.agg #[.string ⟨#[]⟩, .string ⟨#[]⟩]) 32 rfl Tryz.underlying55 infoO rfl (by decide) (by omega) v0 [] (X.take X.length) A1 n1 c1 (fun _ => True) (fun _ => False) rfl rfl R5.out (Kd.C_below CT.out B5.out) (fun x cs h => kO_KM h) (fun _ h => h.elim) (fun _ _ => trivial) B5.out B5.out.size (by have h1 := HN1.out; have h2 := HN2.out; have h3 := HY.out; simp; omega) ?_
      intro v1 w6 hR hB hg hat
      have B6 := Aside0.mk hB
      have R6 := Aside0.mk hR
      clear hR hB hg hat R5 B5
      refine hK.out _ _ B6.out (fun _ => ?_)
      clear hK K
      refine norm_ (a' := ?_) ?_ ?_
      rotate_left
      ·show Act.put _ (some 39) _ = _
       simp only [Act.put, List.setIfInBounds_toArray, List.set_cons_zero, List.set_cons_succ, i64_w, i32_w]
       rfl
      refine one_ (i := 12) (N := some 43) #[true, true, true, true, true, true, true, true, true, true, true, true, true, false, true, true, true, true, true, true, false, false, false, false] rfl rfl (one_of HT_.out (by kernel_rfl)) (by decide) (fun K hK => ?_)
      refine Kd.R_lit_step kO (w0 := wr) wr.heap.size 137 ?hg (N := 43) ?hd (xs := [(k, b)]) (inner := [.string k, .string b]) (ok := (fun _ => True)) (okp := fun _ => False) ?hr ?hp (fun _ hk => hk.elim) trivial B6.out B6.out.size (by simp) ?_; (case hd => rfl); (case hg => rfl); (case hr => first | (go_simp; done) | (go_simp; rfl)); (case hp => exact (Reps.c2 (kO_M _ _ _ (k, b)) (Reps.none _ _)))
      intro v2 w7 hR hB hg hat
      obtain ⟨A_, c_, rfl, _, hC_⟩ := Kd.R_reads hR
      have B7 := Aside0.mk hB
      have R7 := Aside0.mk (Kd.R_below R6.out ⟨hg.os, hg.tape, hg.output, hg.size, fun k hk => hg.block k hk (by simp)⟩)
      have C7 := Aside0.mk hC_
      clear hR hB hg hat hC_ R6 B6
      refine hK.out _ _ B7.out (fun _ => ?_)
      clear hK K
      refine norm_ (a' := ?_) ?_ ?_
      rotate_left
      ·show Act.put _ (some 43) _ = _
       simp only [Act.put, List.setIfInBounds_toArray, List.set_cons_zero, List.set_cons_succ, i64_w, i32_w]
       rfl
      exact hCont (_, _, _) _ ⟨B7, R7, A_, c_, rfl, C7⟩
     ·skip
      refine Kd.R_lit_step kO (w0 := wr) wr.heap.size 137 ?hg (N := 43) ?hd (xs := [(k, b)]) (inner := [.string k, .string b]) (ok := (fun k => some k ≠ v0.ownBlock)) (okp := fun _ => False) ?hr ?hp (fun _ hk => hk.elim) (fun e => by have := Kd.R_lt R5.out _ e.symm; omega) B5.out B5.out.size (by simp) ?_; (case hd => rfl); (case hg => rfl); (case hr => first | (go_simp; done) | (go_simp; rfl)); (case hp => exact (Reps.c2 (kO_M _ _ _ (k, b)) (Reps.none _ _)))
      intro v2 w6 hR hB hg hat
      have B6 := Aside0.mk hB
      have R6 := Aside0.mk (Kd.R_below R5.out ⟨hg.os, hg.tape, hg.output, hg.size, fun k hk => hg.block k hk (by simp)⟩)
      have V6 := Aside0.mk hR
      clear hR hB hg hat R5 B5
      refine hK.out _ _ B6.out (fun _ => ?_)
      clear hK K
      refine norm_ (a' := ?_) ?_ ?_
      rotate_left
      ·show Act.put _ (some 43) _ = _
       simp only [Act.put, List.setIfInBounds_toArray, List.set_cons_zero, List.set_cons_succ, i64_w, i32_w]
       rfl
      refine one_ (i := 8) (N := some 39) #[true, true, true, true, true, true, true, true, true, true, true, true, true, false, true, true, true, true, true, true, false, false, false, false] rfl rfl (one_of HT_.out (by kernel_rfl)) (by decide) (fun K hK => ?_)
      refine Kd.R_append_rows_step kO (w0 := wr) wr.heap.size (by rfl) (.tmp 32) (.tmp 38) 55 137 (.agg #[.string ⟨#[]⟩, .string ⟨#[]⟩]) 32 rfl Tryz.underlying55 infoO rfl (by decide) (by omega) v0 [] (X.take X.length) A1 n1 c1 (fun _ => True) (fun _ => False) rfl rfl R6.out (Kd.C_below CT.out B6.out) (fun x cs h => kO_KM h) (fun _ h => h.elim) (fun _ _ => trivial) B6.out B6.out.size (by have h1 := HN1.out; have h2 := HN2.out; have h3 := HY.out; simp; omega) ?_
      intro v1 w7 hR hB hg hat
      obtain ⟨A_, c_, rfl, _, hC_⟩ := Kd.R_reads (Kd.R_grown V6.out hg (fun _ h => h))
      have B7 := Aside0.mk hB
      have R7 := Aside0.mk hR
      have C7 := Aside0.mk hC_
      clear hR hB hg hat hC_ R6 B6 V6
      refine hK.out _ _ B7.out (fun _ => ?_)
      clear hK K
      refine norm_ (a' := ?_) ?_ ?_
      rotate_left
      ·show Act.put _ (some 39) _ = _
       simp only [Act.put, List.setIfInBounds_toArray, List.set_cons_zero, List.set_cons_succ, i64_w, i32_w]
       rfl
      exact hCont (_, _, _) _ ⟨B7, R7, A_, c_, rfl, C7⟩
    ·skip
     refine Kd.R_lit_step kO (w0 := wr) wr.heap.size 137 ?hg (N := 43) ?hd (xs := [(k, b)]) (inner := [.string k, .string b]) (ok := (fun _ => True)) (okp := fun _ => False) ?hr ?hp (fun _ hk => hk.elim) trivial BS.out BS.out.size (by simp) ?_; (case hd => rfl); (case hg => rfl); (case hr => first | (go_simp; done) | (go_simp; rfl)); (case hp => exact (Reps.c2 (kO_M _ _ _ (k, b)) (Reps.none _ _)))
     intro v2 w5 hR hB hg hat
     have B5 := Aside0.mk hB
     have V5 := Aside0.mk hR
     clear hR hB hg hat
     refine hK.out _ _ B5.out (fun _ => ?_)
     clear hK K
     refine norm_ (a' := ?_) ?_ ?_
     rotate_left
     ·show Act.put _ (some 43) _ = _
      simp only [Act.put, List.setIfInBounds_toArray, List.set_cons_zero, List.set_cons_succ, i64_w, i32_w]
      rfl
     refine one_ (i := 1) (N := some 32) #[true, true, true, true, true, true, true, true, false, true, true, true, true, false, true, true, true, true, true, true, false, false, false, false] rfl rfl (one_of HT_.out (by kernel_rfl)) (by decide) (fun K hK => ?_)
     refine Kd.R_lit_step kO (w0 := wr) wr.heap.size 137 ?hg (N := 32) ?hd (xs := []) (inner := []) (ok := (fun _ => True)) (okp := fun _ => False) ?hr (Reps.none _ _) (fun _ hk => hk.elim) trivial B5.out B5.out.size (by simp) ?_; (case hd => rfl); (case hg => rfl); (case hr => first | (go_simp; done) | (go_simp; rfl))
     intro v0 w6 hR hB hg hat
     obtain ⟨b_, hb_, hb2_⟩ := hat
     have B6 := Aside0.mk hB
     have R6 := Aside0.mk hR
     have V6 := Aside0.mk (Kd.R_mono (Kd.R_below (Kd.R_bound V5.out) ⟨hg.os, hg.tape, hg.output, hg.size, fun k hk => hg.block k hk (by simp)⟩) (ok' := fun k => some k ≠ v0.ownBlock) (fun k hk e => by rw [hb_] at e; injection e with e; have := hk.2.2.1; omega))
     clear hR hB hg hb_ hb2_ B5 V5
     refine hK.out _ _ B6.out (fun _ => ?_)
     clear hK K
     refine norm_ (a' := ?_) ?_ ?_
     rotate_left
     ·show Act.put _ (some 32) _ = _
      simp only [Act.put, List.setIfInBounds_toArray, List.set_cons_zero, List.set_cons_succ, i64_w, i32_w]
      rfl
     refine one_ (i := 8) (N := some 39) #[true, true, true, true, true, true, true, true, true, true, true, true, true, false, true, true, true, true, true, true, false, false, false, false] rfl rfl (one_of HT_.out (by kernel_rfl)) (by decide) (fun K hK => ?_)
     refine Kd.R_append_rows_step kO (w0 := wr) wr.heap.size (by rfl) (.tmp 32) (.tmp 38) 55 137 (.agg #[.string ⟨#[]⟩, .string ⟨#[]⟩]) 32 rfl Tryz.underlying55 infoO rfl (by decide) (by omega) v0 [] (X.take X.length) A1 n1 c1 (fun _ => True) (fun _ => False) rfl rfl R6.out (Kd.C_below CT.out B6.out) (fun x cs h => kO_KM h) (fun _ h => h.elim) (fun _ _ => trivial) B6.out B6.out.size (by have h1 := HN1.out; have h2 := HN2.out; have h3 := HY.out; simp; omega) ?_
     intro v1 w7 hR hB hg hat
     obtain ⟨A_, c_, rfl, _, hC_⟩ := Kd.R_reads (Kd.R_grown V6.out hg (fun _ h => h))
     have B7 := Aside0.mk hB
     have R7 := Aside0.mk hR
     have C7 := Aside0.mk hC_
     clear hR hB hg hat hC_ R6 B6 V6
     refine hK.out _ _ B7.out (fun _ => ?_)
     clear hK K
     refine norm_ (a' := ?_) ?_ ?_
     rotate_left
     ·show Act.put _ (some 39) _ = _
      simp only [Act.put, List.setIfInBounds_toArray, List.set_cons_zero, List.set_cons_succ, i64_w, i32_w]
      rfl
     exact hCont (_, _, _) _ ⟨B7, R7, A_, c_, rfl, C7⟩
   rintro ⟨v0, v1, v2⟩ w7 ⟨B7, R7, A_, c_, hv_, C7⟩
   simp only at R7 hv_
   subst hv_
   refine norm_ (a' := ?_) ?_ ?_
   rotate_left
   ·simp only [putAll, List.foldl_cons, List.foldl_nil, Act.put, List.setIfInBounds_toArray, List.set_cons_zero, List.set_cons_succ]
    rfl
   refine one_ (i := 13) (N := some 44) #[true, true, true, true, true, true, true, true, true, true, true, true, true, true, true, true, true, true, true, true, false, false, false, false] rfl rfl (one_of HT_.out (by kernel_rfl)) (by decide) (fun K hK => ?_)
   refine Kd.R_append_rows_step kO (w0 := wr) wr.heap.size (by rfl) (.tmp 39) (.tmp 43) 55 137 (.agg #[.string ⟨#[]⟩, .string ⟨#[]⟩]) 32 rfl Tryz.underlying55 infoO rfl (by decide) (by omega) v1 (X.take X.length) [(k, b)] A_ 1 c_ (fun _ => True) (fun _ => False) rfl rfl R7.out C7.out (fun x cs h => kO_KM h) (fun _ h => h.elim) (fun _ _ => trivial) B7.out B7.out.size (by have h1 := HN1.out; have h2 := HN2.out; have h3 := HY.out; simp; omega) ?_
   intro v3 w8 hR hB hg hat
   have B8 := Aside0.mk hB
   have R8 := Aside0.mk hR
   clear hR hB hg hat B7 R7 C7
   refine hK.out _ _ B8.out (fun _ => ?_)
   clear hK K
   refine norm_ (a' := ?_) ?_ ?_
   rotate_left
   ·show Act.put _ (some 44) _ = _
    simp only [Act.put, List.setIfInBounds_toArray, List.set_cons_zero, List.set_cons_succ, i64_w, i32_w]
    rfl
   refine one_ (i := 20) (N := some 51) #[true, true, true, true, true, true, true, true, true, true, true, true, true, true, true, true, true, true, true, true, true, false, false, false] rfl rfl (one_of HT_.out (by kernel_rfl)) (by decide) (fun K hK => ?_)
   refine Kd.R_append_rows_step kO (w0 := wr) wr.heap.size (by rfl) (.tmp 44) (.tmp 50) 55 137 (.agg #[.string ⟨#[]⟩, .string ⟨#[]⟩]) 32 rfl Tryz.underlying55 infoO rfl (by decide) (by omega) v3 ((X.take X.length) ++ [(k, b)]) (X.drop X.length) A2 n2 c2 (fun _ => True) (fun _ => False) rfl rfl R8.out (Kd.C_below CD.out B8.out) (fun x cs h => kO_KM h) (fun _ h => h.elim) (fun _ _ => trivial) B8.out B8.out.size (by have h1 := HN1.out; have h2 := HN2.out; have h3 := HY.out; simp; omega) ?_
   intro v4 w9 hR hB hg hat
   have B9 := Aside0.mk hB
   have R9 := Aside0.mk hR
   clear hR hB hg hat B8 R8
   refine hK.out _ _ B9.out (fun _ => ?_)
   clear hK K
   refine norm_ (a' := ?_) ?_ ?_
   rotate_left
   ·show Act.put _ (some 51) _ = _
    simp only [Act.put, List.setIfInBounds_toArray, List.set_cons_zero, List.set_cons_succ, i64_w, i32_w]
    rfl
   refine pure_ (i := 21) (N := some 52) (v := ?_) (a' := ?_) #[true, true, true, true, true, true, true, true, true, true, true, true, true, true, true, true, true, true, true, true, true, true, false, false] rfl rfl (any_of HT_.out (by kernel_rfl)) (fun _ _ _ h => h) (Or.inl ⟨by rfl, ?_⟩) ?_ ?_
   rotate_left
   ·intro w'
    go_simp
    with_reducible rfl
   rotate_left
   ·simp only [Act.put, List.setIfInBounds_toArray, List.set_cons_zero, List.set_cons_succ, i64_w, i32_w]
    rfl
   refine pure_ (i := 22) (N := some 53) (v := ?_) (a' := ?_) #[true, true, true, true, true, true, true, true, true, true, true, true, true, true, true, true, true, true, true, true, true, true, true, false] rfl rfl (any_of HT_.out (by kernel_rfl)) (fun _ _ _ h => h) (Or.inl ⟨by rfl, ?_⟩) ?_ ?_
   rotate_left
   ·intro w'
    go_simp
    with_reducible rfl
   rotate_left
   ·simp only [Act.put, List.setIfInBounds_toArray, List.set_cons_zero, List.set_cons_succ, i64_w, i32_w]
    rfl
   refine last_ (i := 23) (N := none) #[true, true, true, true, true, true, true, true, true, true, true, true, true, true, true, true, true, true, true, true, true, true, true, true] rfl rfl (one_of HT_.out (by kernel_rfl)) (by decide) (fun K hK => ?_)
   obtain ⟨A9, c9, rfl⟩ := Kd.R_slice R9.out
   generalize (X.take X.length ++ [(k, b)] ++ X.drop X.length).length = n9 at R9 ⊢
   obtain ⟨t0, t1, t2, fr⟩ := cells3 (blk_below HB.out B9.out)
   refine skip_ (w1 := ?_) (by rfl) rfl ?_ ?_
   rotate_left
   ·go_simp
    rfl
   refine hK.out _ _ ?_
   clear hK K
   refine done_ (done_of HT_.out (by kernel_rfl)) ?_
   clear t0 t1 t2 fr
   have hT := H1.out.turned B9.out R9.out
   rw [HWI.out] at hT
   have HT := Aside0.mk hT
   clear hT
   go_wp2_with fail
   go_end0
   rw [HXE.out]
   refine ⟨rfl, HT.out.1.mono (fun k hk => ⟨hk.1.elim (fun x => x.1) (fun x => Or.inr (Nat.le_trans F1.out.size x)), hk.2⟩) (fun k hk => hk.2), F1.out.andThen HT.out.2 (fun i hi => hi.1)⟩
end Go.Proofs.YtlnbekaldemebaaGreatDoor.Thw
/-! ## Layer 7: the document's Put, PutNew, Get, Delete, List. -/
namespace Go.Proofs.YtlnbekaldemebaaGreatDoor.Thw
open Go Go.RowKit Go.Maps Go.Proofs.YtlnbekaldemebaaGreatDoorW.PrintWords Go.Proofs.YtlnbekaldemebaaGreatDoorW.PrintLast Go.Proofs.YtlnbekaldemebaaGreatDoorW.PrintMore
set_option linter.unusedVariables false
set_option linter.unusedSimpArgs false
theorem RfR.grow {w w' : World} {A : Nat → Prop} {g : Nat} {L : List RObj} {s : List Int} {n : Int} (h : RfR w' A g L s n) (hz : w.heap.size ≤ w'.heap.size) : RfR w' (nA A w w') g L s n := h.mono (fun k hk => ⟨Or.inl hk, h.old k hk⟩) (fun k hk => hk.2)
/-- What a call, and the next one, come to. -/
theorem RPost.then {v : Value} {w w1 w2 : World} {A : Nat → Prop} {g : Nat} {L : List RObj} {s : List Int} {n : Int} (f1 : Frm A w w1) (hR : RfR w2 (Thw.nA A w1 w2) g L s n) (f2 : Frm A w1 w2) : RfR w2 (Thw.nA A w w2) g L s n ∧ Frm A w w2 :=
 ⟨hR.mono (fun k hk => ⟨hk.1.elim Or.inl (fun x => Or.inr (Nat.le_trans f1.size x)), hk.2⟩) (fun k hk => hk.2), f1.andThen f2 (fun i hi => Or.inl hi)⟩
theorem refL_mem {m : Fls} (hn : (m.map (·.1)).Nodup) (k : ByteArray) : (∀ x ∈ refL m, x.1 ≠ k) ↔ look m k = none := by
 have h1 : (refL m).map (·.1) = names m := refL_names m
 have h2 := mem_keys_iff m k
 constructor
 ·intro h
  cases hl : look m k with
  | none => rfl
  | some b =>
   exfalso
   have h3 : k ∈ m.map (·.1) := h2.2 (by rw [hl]; rfl)
   have h4 : k ∈ (refL m).map (·.1) := by rw [h1]; exact mem_names.2 h3
   obtain ⟨x, hx, e⟩ := List.mem_map.1 h4
   exact h x hx e
 ·intro hl x hx e
  have h4 : k ∈ names m := by rw [← h1]; exact List.mem_map.2 ⟨x, hx, e⟩
  have := h2.1 (mem_names.1 h4)
  rw [hl] at this
  cases this
theorem refL_val {m : Fls} (hn : (m.map (·.1)).Nodup) {i : Nat} (hi : i < (refL m).length) : look m (refL m)[i].1 = some (refL m)[i].2 := by
 have hi2 : i < (names m).length := by unfold refL at hi; rw [List.length_map] at hi; exact hi
 have e : (refL m)[i] = ((names m)[i], fileIn m (names m)[i]) := by simp [refL]
 rw [e]
 have h1 := (mem_keys_iff m (names m)[i]).1 (mem_names.1 (List.getElem_mem hi2))
 cases hl : look m (names m)[i] with
 | none => rw [hl] at h1; cases h1
 | some b => simp [fileIn, hl]
set_option maxHeartbeats 3200000 in
set_option maxRecDepth 100000 in
theorem rf_Put (w : World) (A : Nat → Prop) (g : Nat) (st : Rem) (h : RfR w A g (refL st.m) st.s st.n) (hl : st.m.length ≤ 100000) (hn : (st.m.map (·.1)).Nodup) (k b : ByteArray) :
  Calls Tryz.prog 25 #[.pointer (some ⟨g, 0, none⟩), .string k, .string b] w (fun e w' => RPost (.int .i64 (st.put k b).2) w A g (refL (st.put k b).1.m) (st.put k b).1.s (st.put k b).1.n e w') := by
 have HL := Aside0.mk (show (refL st.m).length ≤ 1000000 by rw [refL_length]; omega)
 have HN := Aside0.mk hn
 have HF := Aside0.mk (rf_fate w A g _ _ _ h)
 clear h hl hn
 obtain ⟨f, hf⟩ : ∃ f, st.s.headD 0 = f := ⟨_, rfl⟩
 rw [hf] at HF
 have HFE := Aside0.mk (show st.fate = f from hf)
 clear hf
 go_enter Tryz.func25, Tryz.ntmps25
 go_wp2_with fail
 refine HF.out.mono ?_
 rintro e w1 ⟨rfl, h1, f1⟩
 have H1 := Aside0.mk h1
 have F1 := Aside0.mk f1
 clear h1 f1 HF
 by_cases hf1 : f = 1
 ·subst hf1
  go_wp2_with fail
  go_ret
  have e1 : st.put k b = (st.next, 9) := by simp [Rem.put, HFE.out]
  unfold RPost
  rw [e1]
  exact ⟨rfl, H1.out.grow F1.out.size, F1.out⟩
 by_cases hf2 : f = 2
 ·subst hf2
  go_wp2_with fail
  refine (rf_lay w1 A g (refL st.m) _ _ H1.out HL.out k b).mono ?_
  rintro e w2 ⟨rfl, h2, f2⟩
  rw [wi_wo HN.out] at h2
  have HT := Aside0.mk (RPost.then (v := .tuple #[]) F1.out h2 f2)
  clear h2 f2
  go_wp2_with fail
  go_ret
  have e1 : st.put k b = ({ st.next with m := Thw.put st.m k b }, 9) := by simp [Rem.put, HFE.out]
  unfold RPost
  rw [e1]
  exact ⟨rfl, HT.out.1, HT.out.2⟩
 have b1 : (f == 1) = false := beq_eq_false_iff_ne.2 hf1
 have b2 : (f == 2) = false := beq_eq_false_iff_ne.2 hf2
 have b3 : (f != 1) = true := bne_iff_ne.2 hf1
 have b4 : decide (f = 1) = false := decide_eq_false hf1
 have FF := Aside0.mk (And.intro hf1 hf2)
 clear hf1 hf2
 go_wp2_with fail
 refine (rf_lay w1 A g (refL st.m) _ _ H1.out HL.out k b).mono ?_
 rintro e w2 ⟨rfl, h2, f2⟩
 rw [wi_wo HN.out] at h2
 have HT := Aside0.mk (RPost.then (v := .tuple #[]) F1.out h2 f2)
 clear h2 f2
 go_wp2_with fail
 go_ret
 have e1 : st.put k b = ({ st.next with m := Thw.put st.m k b }, 0) := by simp [Rem.put, HFE.out, FF.out.1, FF.out.2]
 unfold RPost
 rw [e1]
 exact ⟨rfl, HT.out.1, HT.out.2⟩
set_option maxHeartbeats 3200000 in
set_option maxRecDepth 100000 in
theorem rf_Delete (w : World) (A : Nat → Prop) (g : Nat) (st : Rem) (h : RfR w A g (refL st.m) st.s st.n) (hl : st.m.length ≤ 100000) (hn : (st.m.map (·.1)).Nodup) (k : ByteArray) :
  Calls Tryz.prog 27 #[.pointer (some ⟨g, 0, none⟩), .string k] w (fun e w' => RPost (.int .i64 (st.delete k).2) w A g (refL (st.delete k).1.m) (st.delete k).1.s (st.delete k).1.n e w') := by
 have HL := Aside0.mk (show (refL st.m).length ≤ 1000000 by rw [refL_length]; omega)
 have HN := Aside0.mk hn
 have HF := Aside0.mk (rf_fate w A g _ _ _ h)
 clear h hl hn
 obtain ⟨f, hf⟩ : ∃ f, st.s.headD 0 = f := ⟨_, rfl⟩
 rw [hf] at HF
 have HFE := Aside0.mk (show st.fate = f from hf)
 clear hf
 go_enter Tryz.func27, Tryz.ntmps27
 go_wp2_with fail
 refine HF.out.mono ?_
 rintro e w1 ⟨rfl, h1, f1⟩
 have H1 := Aside0.mk h1
 have F1 := Aside0.mk f1
 clear h1 f1 HF
 by_cases hf1 : f = 1
 ·subst hf1
  go_wp2_with fail
  go_ret
  have e1 : st.delete k = (st.next, 9) := by simp [Rem.delete, HFE.out]
  unfold RPost
  rw [e1]
  exact ⟨rfl, H1.out.grow F1.out.size, F1.out⟩
 by_cases hf2 : f = 2
 ·subst hf2
  go_wp2_with fail
  refine (rf_without w1 A g (refL st.m) _ _ H1.out HL.out k).mono ?_
  rintro e w2 ⟨rfl, h2, f2⟩
  rw [wo_refL HN.out] at h2
  have HT := Aside0.mk (RPost.then (v := .tuple #[]) F1.out h2 f2)
  clear h2 f2
  go_wp2_with fail
  go_ret
  have e1 : st.delete k = ({ st.next with m := Thw.del st.m k }, 9) := by simp [Rem.delete, HFE.out]
  unfold RPost
  rw [e1]
  exact ⟨rfl, HT.out.1, HT.out.2⟩
 have b1 : (f == 1) = false := beq_eq_false_iff_ne.2 hf1
 have b2 : (f == 2) = false := beq_eq_false_iff_ne.2 hf2
 have b3 : (f != 1) = true := bne_iff_ne.2 hf1
 have b4 : decide (f = 1) = false := decide_eq_false hf1
 have FF := Aside0.mk (And.intro hf1 hf2)
 clear hf1 hf2
 go_wp2_with fail
 refine (rf_without w1 A g (refL st.m) _ _ H1.out HL.out k).mono ?_
 rintro e w2 ⟨rfl, h2, f2⟩
 rw [wo_refL HN.out] at h2
 have HT := Aside0.mk (RPost.then (v := .tuple #[]) F1.out h2 f2)
 clear h2 f2
 go_wp2_with fail
 go_ret
 have e1 : st.delete k = ({ st.next with m := Thw.del st.m k }, 0) := by simp [Rem.delete, HFE.out, FF.out.1, FF.out.2]
 unfold RPost
 rw [e1]
 exact ⟨rfl, HT.out.1, HT.out.2⟩
set_option maxHeartbeats 3200000 in
set_option maxRecDepth 100000 in
theorem rf_PutNew (w : World) (A : Nat → Prop) (g : Nat) (st : Rem) (h : RfR w A g (refL st.m) st.s st.n) (hl : st.m.length ≤ 100000) (hn : (st.m.map (·.1)).Nodup) (k b : ByteArray) :
  Calls Tryz.prog 56 #[.pointer (some ⟨g, 0, none⟩), .string k, .string b] w (fun e w' => RPost (.int .i64 (st.putNew k b).2) w A g (refL (st.putNew k b).1.m) (st.putNew k b).1.s (st.putNew k b).1.n e w') := by
 have HL := Aside0.mk (show (refL st.m).length ≤ 1000000 by rw [refL_length]; omega)
 have HN := Aside0.mk hn
 have HF := Aside0.mk (rf_fate w A g _ _ _ h)
 clear h hl hn
 obtain ⟨f, hf⟩ : ∃ f, st.s.headD 0 = f := ⟨_, rfl⟩
 rw [hf] at HF
 have HFE := Aside0.mk (show st.fate = f from hf)
 clear hf
 go_enter Tryz.func56, Tryz.ntmps56
 go_wp2_with fail
 refine HF.out.mono ?_
 rintro e w1 ⟨rfl, h1, f1⟩
 have H1 := Aside0.mk h1
 have F1 := Aside0.mk f1
 clear h1 f1 HF
 go_wp2_with fail
 refine (rf_at w1 A g (refL st.m) _ _ H1.out HL.out k).mono ?_
 rintro e w2 ⟨hat, rfl⟩
 rcases hat with ⟨ha, rfl⟩ | ⟨i, hi, ha, rfl⟩
 ·have LK := Aside0.mk ((refL_mem HN.out k).1 ha)
  clear ha
  by_cases hf1 : f = 1
  ·subst hf1
   go_wp2_with fail
   go_ret
   have e1 : st.putNew k b = (st.next, 9) := by simp [Rem.putNew, HFE.out, LK.out, ifAny]
   unfold RPost
   rw [e1]
   exact ⟨rfl, H1.out.grow F1.out.size, F1.out⟩
  by_cases hf2 : f = 2
  ·subst hf2
   go_wp2_with fail
   refine (rf_lay w1 A g (refL st.m) _ _ H1.out HL.out k b).mono ?_
   rintro e w2 ⟨rfl, h2, f2⟩
   rw [wi_wo HN.out] at h2
   have HT := Aside0.mk (RPost.then (v := .tuple #[]) F1.out h2 f2)
   clear h2 f2
   go_wp2_with fail
   go_ret
   have e1 : st.putNew k b = ({ st.next with m := Thw.put st.m k b }, 9) := by simp [Rem.putNew, HFE.out, LK.out, ifAny]
   unfold RPost
   rw [e1]
   exact ⟨rfl, HT.out.1, HT.out.2⟩
  have b1 : (f == 1) = false := beq_eq_false_iff_ne.2 hf1
  have b2 : (f == 2) = false := beq_eq_false_iff_ne.2 hf2
  have b3 : (f != 1) = true := bne_iff_ne.2 hf1
  have b4 : decide (f = 1) = false := decide_eq_false hf1
  have FF := Aside0.mk (And.intro hf1 hf2)
  clear hf1 hf2
  go_wp2_with fail
  refine (rf_lay w1 A g (refL st.m) _ _ H1.out HL.out k b).mono ?_
  rintro e w2 ⟨rfl, h2, f2⟩
  rw [wi_wo HN.out] at h2
  have HT := Aside0.mk (RPost.then (v := .tuple #[]) F1.out h2 f2)
  clear h2 f2
  go_wp2_with fail
  go_ret
  have e1 : st.putNew k b = ({ st.next with m := Thw.put st.m k b }, 0) := by simp [Rem.putNew, HFE.out, LK.out, ifAny, FF.out.1, FF.out.2]
  unfold RPost
  rw [e1]
  exact ⟨rfl, HT.out.1, HT.out.2⟩
 ·have LK := Aside0.mk (by rw [← ha]; exact refL_val HN.out hi : look st.m k = some (refL st.m)[i].2)
  have d0 : decide (0 ≤ (i : Int)) = true := decide_eq_true (by omega)
  clear ha
  by_cases hf1 : f = 1
  ·subst hf1
   go_wp2_with fail
   go_ret
   have e1 : st.putNew k b = (st.next, 9) := by simp [Rem.putNew, HFE.out, LK.out, ifAny]
   unfold RPost
   rw [e1]
   exact ⟨rfl, H1.out.grow F1.out.size, F1.out⟩
  by_cases hf2 : f = 2
  ·subst hf2
   go_wp2_with fail
   go_ret
   have e1 : st.putNew k b = (st.next, 9) := by simp [Rem.putNew, HFE.out, LK.out, ifAny]
   unfold RPost
   rw [e1]
   exact ⟨rfl, H1.out.grow F1.out.size, F1.out⟩
  have b1 : (f == 1) = false := beq_eq_false_iff_ne.2 hf1
  have b2 : (f == 2) = false := beq_eq_false_iff_ne.2 hf2
  have b3 : (f != 1) = true := bne_iff_ne.2 hf1
  have b4 : decide (f = 1) = false := decide_eq_false hf1
  have FF := Aside0.mk (And.intro hf1 hf2)
  clear hf1 hf2
  go_wp2_with fail
  go_ret
  have e1 : st.putNew k b = (st.next, 7) := by simp [Rem.putNew, HFE.out, LK.out, ifAny, FF.out.1, FF.out.2]
  unfold RPost
  rw [e1]
  exact ⟨rfl, H1.out.grow F1.out.size, F1.out⟩
set_option maxHeartbeats 3200000 in
set_option maxRecDepth 100000 in
theorem rf_Get (w : World) (A : Nat → Prop) (g : Nat) (st : Rem) (h : RfR w A g (refL st.m) st.s st.n) (hl : st.m.length ≤ 100000) (hn : (st.m.map (·.1)).Nodup) (k : ByteArray) :
  Calls Tryz.prog 53 #[.pointer (some ⟨g, 0, none⟩), .string k] w (fun e w' => e = .returned (.tuple #[.string (st.get k).2.1, .int .i64 (st.get k).2.2]) ∧ RfR w' A g (refL st.m) st.next.s st.next.n ∧ Frm A w w') := by
 have HL := Aside0.mk (show (refL st.m).length ≤ 1000000 by rw [refL_length]; omega)
 have HN := Aside0.mk hn
 have HF := Aside0.mk (rf_fate w A g _ _ _ h)
 clear h hl hn
 obtain ⟨f, hf⟩ : ∃ f, st.s.headD 0 = f := ⟨_, rfl⟩
 rw [hf] at HF
 have HFE := Aside0.mk (show st.fate = f from hf)
 clear hf
 go_enter Tryz.func53, Tryz.ntmps53
 go_wp2_with fail
 refine HF.out.mono ?_
 rintro e w1 ⟨rfl, h1, f1⟩
 have H1 := Aside0.mk h1
 have F1 := Aside0.mk f1
 clear h1 f1 HF
 by_cases hf1 : f = 1
 ·subst hf1
  go_wp2_with fail
  go_ret2
  have e1 : st.get k = (st.next, ⟨#[]⟩, 9) := by simp [Rem.get, HFE.out]
  rw [e1]
  exact ⟨rfl, H1.out, F1.out⟩
 by_cases hf2 : f = 2
 ·subst hf2
  go_wp2_with fail
  go_ret2
  have e1 : st.get k = (st.next, ⟨#[]⟩, 9) := by simp [Rem.get, HFE.out]
  rw [e1]
  exact ⟨rfl, H1.out, F1.out⟩
 have b1 : (f == 1) = false := beq_eq_false_iff_ne.2 hf1
 have b2 : (f == 2) = false := beq_eq_false_iff_ne.2 hf2
 have b3 : (f != 1) = true := bne_iff_ne.2 hf1
 have b4 : decide (f = 1) = false := decide_eq_false hf1
 have FF := Aside0.mk (And.intro hf1 hf2)
 clear hf1 hf2
 go_wp2_with fail
 refine (rf_at w1 A g (refL st.m) _ _ H1.out HL.out k).mono ?_
 rintro e w2 ⟨hat, rfl⟩
 rcases hat with ⟨ha, rfl⟩ | ⟨i, hi, ha, rfl⟩
 ·have LK := Aside0.mk ((refL_mem HN.out k).1 ha)
  clear ha
  go_wp2_with fail
  go_ret2
  have e1 : st.get k = (st.next, ⟨#[]⟩, 5) := by simp [Rem.get, HFE.out, FF.out.1, FF.out.2, LK.out]
  rw [e1]
  exact ⟨rfl, H1.out, F1.out⟩
 ·have LK := Aside0.mk (by rw [← ha]; exact refL_val HN.out hi : look st.m k = some (refL st.m)[i].2)
  have d0 : decide ((i : Int) < 0) = false := decide_eq_false (by omega)
  obtain ⟨_, _, v, sv, hb, hR, _⟩ := H1.out
  obtain ⟨A0, c0', rfl, hc0, hC⟩ := Kd.R_reads hR
  obtain ⟨t0, t1, t2, fr⟩ := cells3 hb
  obtain ⟨ad, rfl, q0, q1⟩ := C_obAt hC hi
  have i0 : 0 ≤ (i : Int) := by omega
  have i1 : (i : Int) < ((refL st.m).length : Int) := by omega
  generalize (refL st.m)[i] = x at q0 q1 LK
  clear ha hb hR hC
  go_wp2_with fail
  go_ret2
  have e1 : st.get k = (st.next, x.2, 0) := by simp [Rem.get, HFE.out, FF.out.1, FF.out.2, LK.out]
  rw [e1]
  exact ⟨rfl, H1.out, F1.out⟩
def RListPost (w : World) (A : Nat → Prop) (g : Nat) (st : Rem) (e : Ending) (w' : World) : Prop := ∃ v, e = .returned (.tuple #[v, .int .i64 st.list.2]) ∧ Kd.string.R 9 w' w.heap.size (fun _ => True) v st.list.1 ∧ RfR w' A g (refL st.m) st.next.s st.next.n ∧ Frm A w w'
set_option maxHeartbeats 3200000 in
set_option maxRecDepth 100000 in
theorem rf_List (w : World) (A : Nat → Prop) (g : Nat) (st : Rem) (h : RfR w A g (refL st.m) st.s st.n) (hl : st.m.length ≤ 100000) (hn : (st.m.map (·.1)).Nodup) :
  Calls Tryz.prog 52 #[.pointer (some ⟨g, 0, none⟩)] w (RListPost w A g st) := by
 have HL := Aside0.mk (show (refL st.m).length ≤ 1000000 by rw [refL_length]; omega)
 have HN := Aside0.mk hn
 have HF := Aside0.mk (rf_fate w A g _ _ _ h)
 clear h hl hn
 obtain ⟨f, hf⟩ : ∃ f, st.s.headD 0 = f := ⟨_, rfl⟩
 rw [hf] at HF
 have HFE := Aside0.mk (show st.fate = f from hf)
 clear hf
 go_enter Tryz.func52, Tryz.ntmps52
 go_wp2_with fail
 refine HF.out.mono ?_
 rintro e w1 ⟨rfl, h1, f1⟩
 have H1 := Aside0.mk h1
 have F1 := Aside0.mk f1
 clear h1 f1 HF
 by_cases hf1 : f = 1
 ·subst hf1
  go_wp2_with fail
  go_ret2
  have e1 : st.list = ([], 9) := by simp [Rem.list, HFE.out]
  unfold RListPost
  rw [e1]
  exact ⟨_, rfl, Kd.R_nil _ _ _ _ _, H1.out, F1.out⟩
 by_cases hf2 : f = 2
 ·subst hf2
  go_wp2_with fail
  go_ret2
  have e1 : st.list = ([], 9) := by simp [Rem.list, HFE.out]
  unfold RListPost
  rw [e1]
  exact ⟨_, rfl, Kd.R_nil _ _ _ _ _, H1.out, F1.out⟩
 have b1 : (f == 1) = false := beq_eq_false_iff_ne.2 hf1
 have b2 : (f == 2) = false := beq_eq_false_iff_ne.2 hf2
 have b3 : (f != 1) = true := bne_iff_ne.2 hf1
 have b4 : decide (f = 1) = false := decide_eq_false hf1
 have FF := Aside0.mk (And.intro hf1 hf2)
 clear hf1 hf2
 obtain ⟨_, _, v, sv, hb, hR, _⟩ := H1.out
 obtain ⟨A0, c0', rfl, hc0, hC⟩ := Kd.R_reads hR
 have HB := Aside0.mk hb
 have HC := Aside0.mk hC
 clear hb hR hC
 obtain ⟨t0, t1, t2, fr⟩ := cells3 HB.out
 go_wp2_with fail
 go_loopw [5, 6] (fun v5 v6 wr => ∃ i : Nat, i ≤ (refL st.m).length ∧ v6 = .int .i64 i ∧ Aside0 (Kd.string.R 9 wr w1.heap.size (fun _ => True) v5 (((refL st.m).take i).map (·.1))) ∧ Aside0 (Below w1.heap.size w1 wr)) (fun _ v6 _ => (refL st.m).length - (intOf v6).toNat)
 case atStart => exact ⟨0, by omega, rfl, ⟨Kd.R_nil _ _ _ _ _⟩, ⟨Below.refl _ _⟩⟩
 case round =>
  obtain ⟨i, hi, rfl, HR, HW⟩ := hrel
  obtain ⟨A4, c4, rfl⟩ := Kd.R_slice HR.out
  obtain ⟨c0, c1, c2, fr⟩ := cells3 (blk_below HB.out HW.out)
  have hll := HL.out
  by_cases hlt : i < (refL st.m).length
  ·have d1 : decide ((i : Int) < ((refL st.m).length : Int)) = true := decide_eq_true (by omega)
   have i0 : 0 ≤ (i : Int) := by omega
   have i1 : (i : Int) < ((refL st.m).length : Int) := by omega
   obtain ⟨ad, rfl, q0, q1⟩ := C_obAt (Kd.C_below HC.out HW.out) hlt
   have HS := Aside0.mk (by rw [List.take_succ_eq_append_getElem hlt, List.map_append]; rfl : ((refL st.m).take (i + 1)).map (·.1) = ((refL st.m).take i).map (·.1) ++ [(refL st.m)[i].1])
   have hyl : (((refL st.m).take i).map (·.1)).length ≤ i := by rw [List.length_map, List.length_take]; omega
   generalize (refL st.m)[i] = x at q0 q1 HS
   generalize ((refL st.m).take i).map (·.1) = Y at HR HS hyl ⊢
   go_wp2_with (at_builtin; refine Kd.R_append Kd.string (w0 := w1) w1.heap.size rfl (.tmp 24) (.tmp 33) 22 9 (.string ⟨#[]⟩) 16 rfl Tryz.underlying22 strinfo rfl (by decide) (by omega) (.slice A4 Y.length c4) Y x.1 [.string x.1] (fun _ => True) (fun _ => False) rfl rfl rfl (fun _ hk => hk.elim) (fun _ _ => trivial) HR.out HW.out HW.out.size (by omega) ?_; intro v1 w5 hR hB hg hat; obtain ⟨A6, c6, rfl⟩ := Kd.R_slice hR; have HR5 := Aside0.mk hR; have HB5 := Aside0.mk hB; clear hR hB hg hat)
   go_roundw
   case rel => exact ⟨i + 1, by omega, by go_num, ⟨by rw [HS.out]; simpa using HR5.out⟩, HB5⟩
   case measure => simp [intOf]; omega
  ·have d1 : decide ((i : Int) < ((refL st.m).length : Int)) = false := decide_eq_false (by omega)
   have hii : i = (refL st.m).length := by omega
   subst hii
   rw [List.take_length, refL_names] at HR ⊢
   go_wp2_with fail
   go_ret2
   have e1 : st.list = (names st.m, 0) := by simp [Rem.list, HFE.out, FF.out.1, FF.out.2]
   unfold RListPost
   rw [e1]
   exact ⟨_, rfl, Kd.R_lower HR.out F1.out.size, H1.out.below HW.out, F1.out.andThen (Frm.of_new (S := None') HW.out) (fun _ x => x.elim)⟩
end Go.Proofs.YtlnbekaldemebaaGreatDoor.Thw
