/- Layer 10: a slot is written; New; what is deleted, in plain words. -/
import Derived.Test.YtcpjfpbfopkngaaEv10
import Derived.Test.YtcpjfpbfopkngaaWTab
namespace Go.Proofs.Ytcpjfpbfopkngaa.Thw
open Go Go.RowKit Go.Proofs.YtcpjfpbfopkngaaW.PrintWords Go.Proofs.YtcpjfpbfopkngaaW.PrintLast Go.Proofs.YtcpjfpbfopkngaaW.PrintMore
set_option linter.unusedVariables false
set_option linter.unusedSimpArgs false
theorem region_draw {P : Program} {ops : Array Oper} {Q : Exit → Act → World → Prop} {S : World → Prop} {ds : List Nat} {id n : Nat} {a : Act} {w : World} (l : Array Bool) (hm : P.follows .mixedOrders = true) (hn : ops.size = n) (hl : Array.replicate n false = l)
    (F : World → Prop) (hF : F w.drew) (hFS : ∀ W, F W → S W) (h : ∀ W, F W → wpAnyLast P .any ops Q S ds n l a W) : (Code.region id ops true).wp P Q a w := start_ l hm hn hl (hFS _ hF) (fun _ => h _ hF)
theorem DirAt.form {w : World} {A : Nat → Prop} {p : Nat} {T : List Slt} {many : Int} (h : DirAt w A p T many) (hT : 0 < T.length) :
    ∃ g c, w.heap[p]? = some (.cells #[.slice (some ⟨g, 0, none⟩) T.length c, .int .i64 many] 54) ∧ kS.R 57 w 0 (fun k => A k ∧ k ≠ p) (.slice (some ⟨g, 0, none⟩) T.length c) T := by
  obtain ⟨h1, h2, v, h3, h4⟩ := h
  obtain ⟨g, cap, rfl, _, _, _⟩ := Kd.R_form h4 hT
  exact ⟨g, cap, h3, h4⟩
/-- A slot is written. -/
theorem dir_set {w : World} {A : Nat → Prop} {p g c : Nat} {T : List Slt} {many : Int} (h1 : A p) (h2 : ∀ k, A k → k < w.heap.size) (h3 : w.heap[p]? = some (.cells #[.slice (some ⟨g, 0, none⟩) T.length c, .int .i64 many] 54))
    (h4 : kS.R 57 w 0 (fun k => A k ∧ k ≠ p) (.slice (some ⟨g, 0, none⟩) T.length c) T) (i : Nat) (hi : i < T.length) (s : Slt) :
    DirAt (w.setCells g (i * 6) (encS s)) A p (T.set i s) many ∧ Frm A w (w.setCells g (i * 6) (encS s)) := by
  have hg := h4.1 g rfl
  have hf := setCells_frm (encS s) w g (i * 6)
  have hR := R_setK (enc := encS) kS_E (fun w b o x => kS_M w b o x) (fun _ => rfl) h4 i hi s
  exact ⟨⟨h1, fun k hk => Nat.lt_of_lt_of_le (h2 k hk) hf.size, _, hf.keeps h3 (fun e => hg.2 e.symm), hR⟩, hf.mono (fun i _ e => by rw [e]; exact hg.1)⟩
theorem dir_frozen {w : World} {A : Nat → Prop} {g n c : Nat} {T : List Slt} (h : kS.R 57 w 0 A (.slice (some ⟨g, 0, none⟩) n c) T) (o : Nat) : w.frozen? ⟨g, o, none⟩ = false := by
  obtain ⟨inner, hown⟩ := Kd.R_own h
  obtain ⟨cells, hc⟩ := own_typed hown g rfl
  simp [World.frozen?, hc]
theorem dir_slot {w : World} {A : Nat → Prop} {g n c : Nat} {T : List Slt} (h : kS.R 57 w 0 A (.slice (some ⟨g, 0, none⟩) n c) T) (j : Nat) (hj : j < T.length) :
    w.cell? ⟨g, j * 6, none⟩ = some (.string T[j].1) ∧ w.cell? ⟨g, j * 6 + 1, none⟩ = some (.int .i64 T[j].2.1.1) ∧ w.cell? ⟨g, j * 6 + 2, none⟩ = some (.int .i64 T[j].2.1.2.1) ∧ w.cell? ⟨g, j * 6 + 3, none⟩ = some (.int .i64 T[j].2.1.2.2.1) ∧ w.cell? ⟨g, j * 6 + 4, none⟩ = some (.int .u64 T[j].2.1.2.2.2) ∧ w.cell? ⟨g, j * 6 + 5, none⟩ = some (.bool T[j].2.2) := by
  obtain ⟨_, _, hC⟩ := Kd.R_reads' h
  obtain ⟨ad, e, x0, x1, x2, x3, x4, x5⟩ := C_slAt hC hj
  cases e
  have e2 : (⟨g, 0, none⟩ : Addr).add (j * 6) = ⟨g, j * 6, none⟩ := by
    have : (⟨g, 0, none⟩ : Addr).add (j * 6) = ⟨g, 0 + j * 6, none⟩ := by unfold Addr.add; split <;> simp_all
    rwa [Nat.zero_add] at this
  rw [e2] at x0 x1 x2 x3 x4 x5
  exact ⟨x0, x1, x2, x3, x4, x5⟩
theorem occ_set {T : List Slt} {i : Nat} (hi : i < T.length) (s : Slt) : occ (T.set i s) = upd' (occ T) i (if s.2.2 = true then some s.1 else none) := by
  funext j
  unfold occ upd'
  by_cases h : j = i
  · subst h
    rw [if_pos rfl, List.getElem?_set_self hi]
  · rw [if_neg h, List.getElem?_set_ne (fun e => h e.symm)]
theorem occ_set_z {T : List Slt} {i : Nat} (hi : i < T.length) : occ (T.set i zS) = upd' (occ T) i none := occ_set hi zS
theorem occ_set_s {T : List Slt} {i : Nat} (hi : i < T.length) (s : Slt) (hs : s.2.2 = true) : occ (T.set i s) = upd' (occ T) i (some s.1) := by rw [occ_set hi, if_pos hs]
/-- One slot is taken out and laid anew. -/
def reT (T : List Slt) (j : Nat) : List Slt := match T[j]? with
  | some s => (T.set j zS).set (fnd (occ (T.set j zS)) T.length (hmK T.length s.1) s.1) s
  | none => T
/-- What a deletion of the key at i0 comes to, t slots behind it laid anew. -/
def dl (T : List Slt) (i0 : Nat) : Nat → List Slt
  | 0 => T.set i0 zS
  | t + 1 => reT (dl T i0 t) ((i0 + (t + 1)) % T.length)
theorem reT_length (T : List Slt) (j : Nat) : (reT T j).length = T.length := by
  unfold reT
  split
  · rw [List.length_set, List.length_set]
  · rfl
theorem dl_length (T : List Slt) (i0 : Nat) : ∀ t, (dl T i0 t).length = T.length
  | 0 => List.length_set
  | t + 1 => by rw [dl, reT_length, dl_length T i0 t]
/-- How many places from i0 on are in a row. -/
theorem run_end {f : Nat → Option ByteArray} {n i0 : Nat} (hi0 : i0 < n) (hg : Gap f n) (h0 : f i0 ≠ none) : ∃ m, 1 ≤ m ∧ m < n ∧ (∀ u, u < m → f ((i0 + u) % n) ≠ none) ∧ f ((i0 + m) % n) = none := by
  obtain ⟨g, hgn, hgf⟩ := hg
  obtain ⟨m, hm⟩ : ∃ m, (List.range n).findIdx (fun u => (f ((i0 + u) % n)).isNone) = m := ⟨_, rfl⟩
  have e0 : (i0 + (g + n - i0) % n) % n = g := by
    rw [Nat.add_mod_mod, show i0 + (g + n - i0) = g + n by omega, Nat.add_mod_right, Nat.mod_eq_of_lt hgn]
  have hlt : m < n := by
    have : (List.range n).findIdx (fun u => (f ((i0 + u) % n)).isNone) < (List.range n).length := by
      rw [List.findIdx_lt_length]
      exact ⟨(g + n - i0) % n, List.mem_range.2 (Nat.mod_lt _ (by omega)), by rw [e0, hgf]; rfl⟩
    rwa [List.length_range, hm] at this
  have hend : f ((i0 + m) % n) = none := by
    have hl' : (List.range n).findIdx (fun u => (f ((i0 + u) % n)).isNone) < (List.range n).length := by rw [List.length_range, hm]; exact hlt
    have h1 := List.findIdx_getElem (w := hl')
    simp only [List.getElem_range, hm] at h1
    exact Option.isNone_iff_eq_none.1 h1
  refine ⟨m, ?_, hlt, fun u hu => ?_, hend⟩
  · rcases Nat.eq_zero_or_pos m with h | h
    · rw [h, Nat.add_zero, Nat.mod_eq_of_lt hi0] at hend
      exact absurd hend h0
    · exact h
  · rw [← hm] at hu
    have h1 := List.not_of_lt_findIdx hu
    simp only [List.getElem_range] at h1
    intro e
    rw [e] at h1
    simp at h1
theorem dl_mid {T : List Slt} {i0 m : Nat} (hG : Good (occ T) T.length (hmK T.length)) (hi0 : i0 < T.length) (hm1 : 1 ≤ m) (hmn : m < T.length) (hfull : ∀ u, u < m → occ T ((i0 + u) % T.length) ≠ none) (hend : occ T ((i0 + m) % T.length) = none) :
    ∀ t, t < m → Mid (occ T) (occ (dl T i0 t)) T.length i0 m (t + 1) (hmK T.length) ∧ (t + 1 < m → ∃ s, (dl T i0 t)[(i0 + (t + 1)) % T.length]? = some s ∧ s.2.2 = true) := by
  have hn0 : 0 < T.length := by omega
  have hh : ∀ k, hmK T.length k < T.length := fun k => Nat.mod_lt _ hn0
  have hsec : ∀ t, t < m → Mid (occ T) (occ (dl T i0 t)) T.length i0 m (t + 1) (hmK T.length) → t + 1 < m → ∃ s, (dl T i0 t)[(i0 + (t + 1)) % T.length]? = some s ∧ s.2.2 = true := by
    intro t ht hM h1
    have h2 := hM.tail (t + 1) (Nat.le_refl _) (Nat.le_of_lt h1)
    have h3 := hfull (t + 1) h1
    rw [← h2] at h3
    have hlt : (i0 + (t + 1)) % T.length < (dl T i0 t).length := by rw [dl_length]; exact Nat.mod_lt _ hn0
    rw [occ_at hlt] at h3
    refine ⟨_, List.getElem?_eq_getElem hlt, ?_⟩
    by_cases h4 : (dl T i0 t)[(i0 + (t + 1)) % T.length].2.2 = true
    · exact h4
    · rw [if_neg h4] at h3; exact absurd rfl h3
  intro t
  induction t with
  | zero =>
    intro h0
    have hM : Mid (occ T) (occ (dl T i0 0)) T.length i0 m 1 (hmK T.length) := by
      rw [dl, occ_set_z hi0]
      exact Mid.start hG hh hi0 hm1 hmn hfull hend
    exact ⟨hM, hsec 0 h0 hM⟩
  | succ t ih =>
    intro h1
    obtain ⟨hM, hs⟩ := ih (by omega)
    obtain ⟨s, hs1, hs2⟩ := hs h1
    have hlt : (i0 + (t + 1)) % T.length < (dl T i0 t).length := by rw [dl_length]; exact Nat.mod_lt _ hn0
    have hsx : (dl T i0 t)[(i0 + (t + 1)) % T.length] = s := by rw [List.getElem?_eq_getElem hlt] at hs1; injection hs1
    have hk : occ (dl T i0 t) ((i0 + (t + 1)) % T.length) = some s.1 := by rw [occ_at hlt, hsx, if_pos hs2]
    obtain ⟨_, _, h4⟩ := hM.step hh hi0 h1 hmn hG hend hk
    have hM2 : Mid (occ T) (occ (dl T i0 (t + 1))) T.length i0 m (t + 1 + 1) (hmK T.length) := by
      have e : dl T i0 (t + 1) = ((dl T i0 t).set ((i0 + (t + 1)) % T.length) zS).set (fnd (occ ((dl T i0 t).set ((i0 + (t + 1)) % T.length) zS)) T.length (hmK T.length s.1) s.1) s := by
        rw [dl]
        unfold reT
        rw [hs1]
        simp only [dl_length]
      rw [e, occ_set_s (by rw [List.length_set, dl_length]; exact fnd_lt hn0) s hs2, occ_set_z hlt]
      exact h4
    exact ⟨hM2, hsec (t + 1) h1 hM2⟩
theorem zeroSlots (w : World) : (zeroValue 57).run Try.prog w = .ok (.agg #[.string ⟨#[]⟩, .int .i64 0, .int .i64 0, .int .i64 0, .int .u64 0, .bool false]) w := by kernel_rfl
def NewPost (w : World) (e : Ending) (w' : World) : Prop := ∃ p, e = .returned (.pointer (some ⟨p, 0, none⟩)) ∧ DirAt w' (fun k => w.heap.size ≤ k ∧ k < w'.heap.size) p (List.replicate 8 zS) 0 ∧ Below w.heap.size w w'
set_option maxHeartbeats 1600000 in
set_option maxRecDepth 100000 in
theorem dir_New.calls (w : World) : Calls Try.prog 8 #[] w (NewPost w) := by
  go_enter Try.func8, Try.ntmps8
  go_wp2_with ((with_reducible refine gate_dst (N := 1) rfl ?_); refine Kd.R_make kS (w0 := w) w.heap.size 57 rfl (N := 1) rfl 52 _ _ rfl (8 : Int) rfl rfl Try.underlying52 (.agg #[.string ⟨#[]⟩, .int .i64 0, .int .i64 0, .int .i64 0, .int .u64 0, .bool false]) 56 infoS rfl (by decide) (by decide) zS (ok := fun _ => True) (okp := fun _ => False) ?aM (fun _ x => x.elim) trivial ?a0 ?aL (Below.refl _ _) (Nat.le_refl _) ?_; (case aM => exact kS_M _ _ _ zS); (case a0 => omega); (case aL => omega); intro v1 w3 hR3 hB3 hg3 hv3; obtain ⟨g, cap, rfl, _, _, _⟩ := Kd.R_form hR3 (by simp); obtain ⟨n8, hn8⟩ : ∃ n_ : Nat, (List.replicate (8 : Int).toNat zS).length = n_ := ⟨_, rfl⟩; rw [hn8] at hR3 ⊢; have HN8 := Aside0.mk hn8; have HR3 := Aside0.mk hR3; have HB3 := Aside0.mk hB3; clear hR3 hB3 hg3 hv3 hn8)
  go_ret
  refine ⟨w3.heap.size, rfl, ⟨⟨HB3.out.size, by simp⟩, fun k hk => hk.2, _, blk_new _ _, ?_⟩, HB3.out.alloc HB3.out.size _⟩
  have h1 : (List.replicate (8 : Int).toNat zS) = List.replicate 8 zS := rfl
  have h2 := Kd.R_alloc (Kd.R_lower (Kd.R_mono (Kd.R_bound HR3.out) (ok' := fun k => w.heap.size ≤ k ∧ k < w3.heap.size) (fun k hk => ⟨hk.2.1, hk.2.2.1⟩)) (Nat.zero_le _)) (.cells #[.slice (some ⟨g, 0, none⟩) n8 cap, .int .i64 0] 54)
  rw [h1] at h2
  exact Kd.R_mono h2 (fun k hk => ⟨⟨hk.1, by simp; omega⟩, by omega⟩)
end Go.Proofs.Ytcpjfpbfopkngaa.Thw
