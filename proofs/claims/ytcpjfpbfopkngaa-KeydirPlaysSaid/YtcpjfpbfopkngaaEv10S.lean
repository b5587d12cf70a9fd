/- Stores into a row of structs of one's own, and 'clear' of its end (the same as XEv15c, for layer 10). No printed text in sight. -/
import Derived.Test.YtcpjfpbfopkngaaHead
import Derived.Lib.SliceRun
namespace Go.Proofs.Ytcpjfpbfopkngaa.Thw
open Go Go.RowKit Go.Proofs.YtcpjfpbfopkngaaW.PrintWords Go.Proofs.YtcpjfpbfopkngaaW.PrintLast Go.Proofs.YtcpjfpbfopkngaaW.PrintMore
set_option linter.unusedVariables false
set_option linter.unusedSimpArgs false
def putL : Array Value → Nat → List Value → Array Value
  | cur, _, [] => cur
  | cur, o, v :: r => putL (cur.setIfInBounds o v) (o + 1) r
theorem putL_size : ∀ (L : List Value) (cur : Array Value) (o : Nat), (putL cur o L).size = cur.size
  | [], _, _ => rfl
  | v :: r, cur, o => by rw [putL, putL_size r]; simp
theorem putL_before : ∀ (L : List Value) (cur : Array Value) (o j : Nat), j < o → (putL cur o L)[j]? = cur[j]?
  | [], _, _, _, _ => rfl
  | v :: r, cur, o, j, h => by rw [putL, putL_before r _ _ _ (by omega), Array.getElem?_setIfInBounds_ne (by omega)]
theorem putL_behind : ∀ (L : List Value) (cur : Array Value) (o j : Nat), o + L.length ≤ j → (putL cur o L)[j]? = cur[j]?
  | [], _, _, _, _ => rfl
  | v :: r, cur, o, j, h => by
    rw [List.length_cons] at h
    rw [putL, putL_behind r _ _ _ (by omega), Array.getElem?_setIfInBounds_ne (by omega)]
theorem putL_in : ∀ (L : List Value) (cur : Array Value) (o i : Nat), o + L.length ≤ cur.size → i < L.length → (putL cur o L)[o + i]? = L[i]?
  | [], _, _, _, _, h => absurd h (by simp)
  | v :: r, cur, o, 0, h, _ => by
    rw [List.length_cons] at h
    simp only [Nat.add_zero]
    rw [putL, putL_before _ _ _ _ (by omega), Array.getElem?_setIfInBounds_self_of_lt (by omega)]
    rfl
  | v :: r, cur, o, i + 1, h, hi => by
    rw [List.length_cons] at h hi
    rw [putL, show o + (i + 1) = o + 1 + i by omega, putL_in r _ _ _ (by simp; omega) (by omega)]
    rfl
theorem setCells_block : ∀ (L : List Value) (w : World) (g o : Nat) {cur : Array Value} {e : Nat}, w.heap[g]? = some (.cells cur e (0, 0)) → (w.setCells g o L).heap[g]? = some (.cells (putL cur o L) e (0, 0))
  | [], _, _, _, _, _, h => h
  | v :: r, w, g, o, cur, e, h => by
    rw [World.setCells, putL]
    exact setCells_block r _ g (o + 1) (by simp [World.setCell, Array.getElem?_modify, h])
theorem setCells_frm : ∀ (L : List Value) (w : World) (g o : Nat), Frm (fun i => i = g) w (w.setCells g o L)
  | [], w, _, _ => Frm.refl _ w
  | v :: r, w, g, o => by
    rw [World.setCells]
    exact ((Frm.refl (fun i => i = g) w).setCell (Or.inl rfl) v).trans (setCells_frm r _ g (o + 1)) (fun _ _ h => h) (fun _ _ h => h)
section
variable {α : Type}
/-- One struct of a row of one's own is written anew. -/
theorem R_setK {d : Kd α} {enc : α → List Value} (hE : ∀ w base ok x cs, d.M w base ok x cs → cs = enc x) (hM : ∀ w base ok x, d.M w base ok x (enc x)) (hk : ∀ x, (enc x).length = d.sz)
    {e base g n c : Nat} {ok : Nat → Prop} {w : World} {ys : List α} (h : d.R e w base ok (.slice (some ⟨g, 0, none⟩) n c) ys) (i : Nat) (hi : i < ys.length) (x : α) :
    d.R e (w.setCells g (i * d.sz) (enc x)) base ok (.slice (some ⟨g, 0, none⟩) n c) (ys.set i x) := by
  obtain ⟨hok, inner, ⟨hlen, hown⟩, hrl, hrw⟩ := h
  rcases hown with ⟨hv, h0⟩ | ⟨g', cap, cur, hv, hb, hg, hc1, hc2, hcs, htk⟩
  · cases hv
  injection hv with hv1 hv2 hv3
  injection hv1 with hv1
  injection hv1 with hv1
  subst hv1 hv2 hv3
  have hle : ys.length * d.sz ≤ c * d.sz := Nat.mul_le_mul_right _ hc1
  have hik : i * d.sz + d.sz ≤ ys.length * d.sz := by have := Nat.mul_le_mul_right d.sz (show i + 1 ≤ ys.length from hi); rwa [Nat.add_mul, Nat.one_mul] at this
  have hbl := setCells_block (enc x) w g (i * d.sz) hg
  have hsl : (ys.set i x).length = ys.length := List.length_set
  have hps : (putL cur (i * d.sz) (enc x)).toList.length = c * d.sz := by rw [Array.length_toList, putL_size, hcs]
  have hin : ∀ j, j < ys.length * d.sz → cur[j]? = inner[j]? := fun j hj => by rw [← htk, List.getElem?_take, if_pos hj, Array.getElem?_toList]
  refine ⟨hok, (putL cur (i * d.sz) (enc x)).toList.take (ys.length * d.sz), ⟨by rw [hsl, List.length_take, hps]; omega, .inr ⟨g, c, _, by rw [hsl], hb, hbl, by rw [hsl]; exact hc1, hc2, by rw [putL_size, hcs], by rw [hsl]⟩⟩, by rw [hsl, List.length_take, hps]; omega, fun j p hp => ?_⟩
  have hj : j < ys.length := by have := (List.getElem?_eq_some_iff.1 hp).1; omega
  have hjk : j * d.sz + d.sz ≤ ys.length * d.sz := by have := Nat.mul_le_mul_right d.sz (show j + 1 ≤ ys.length from hj); rwa [Nat.add_mul, Nat.one_mul] at this
  have hwin : ∀ t, t < d.sz → ((List.take d.sz (List.drop (j * d.sz) ((putL cur (i * d.sz) (enc x)).toList.take (ys.length * d.sz))))[t]? = (putL cur (i * d.sz) (enc x))[j * d.sz + t]?) := fun t ht => by
    rw [List.getElem?_take, if_pos ht, List.getElem?_drop, List.getElem?_take, if_pos (by omega), Array.getElem?_toList]
  have hall : List.take d.sz (List.drop (j * d.sz) ((putL cur (i * d.sz) (enc x)).toList.take (ys.length * d.sz))) = enc p := by
    apply List.ext_getElem?
    intro t
    by_cases ht : t < d.sz
    · rw [hwin t ht]
      by_cases hji : j = i
      · subst hji
        have hpx : p = x := by rw [List.getElem?_set_self hi] at hp; exact (Option.some.inj hp).symm
        rw [hpx, putL_in (enc x) cur (j * d.sz) t (by rw [hk]; omega) (by rw [hk]; exact ht)]
      · have hpy : ys[j]? = some p := by rw [List.getElem?_set_ne (fun e => hji e.symm)] at hp; exact hp
        have hw := hE _ _ _ _ _ (hrw j p hpy)
        rw [← hw, List.getElem?_take, if_pos ht, List.getElem?_drop, ← hin _ (by omega)]
        rcases Nat.lt_or_ge j i with hlt | hge
        · refine putL_before _ _ _ _ ?_
          have := Nat.mul_le_mul_right d.sz (show j + 1 ≤ i from hlt)
          rw [Nat.add_mul, Nat.one_mul] at this
          omega
        · refine putL_behind _ _ _ _ ?_
          rw [hk]
          have := Nat.mul_le_mul_right d.sz (show i + 1 ≤ j by omega)
          rw [Nat.add_mul, Nat.one_mul] at this
          omega
    · rw [List.getElem?_eq_none (by rw [List.length_take]; omega), List.getElem?_eq_none (by rw [hk]; omega)]
  rw [hall]
  exact hM _ _ _ p
/-- What is written behind the first i structs does not touch these. -/
theorem R_frontK {d : Kd α} {enc : α → List Value} (hE : ∀ w base ok x cs, d.M w base ok x cs → cs = enc x) (hM : ∀ w base ok x, d.M w base ok x (enc x)) (hk : ∀ x, (enc x).length = d.sz)
    {e base g n c : Nat} {ok : Nat → Prop} {w : World} {ys : List α} (h : d.R e w base ok (.slice (some ⟨g, 0, none⟩) n c) ys) (i : Nat) (hi : i ≤ ys.length) (L : List Value) :
    d.R e (w.setCells g (i * d.sz) L) base ok (.slice (some ⟨g, 0, none⟩) i c) (ys.take i) := by
  obtain ⟨hok, inner, ⟨hlen, hown⟩, hrl, hrw⟩ := h
  rcases hown with ⟨hv, h0⟩ | ⟨g', cap, cur, hv, hb, hg, hc1, hc2, hcs, htk⟩
  · cases hv
  injection hv with hv1 hv2 hv3
  injection hv1 with hv1
  injection hv1 with hv1
  subst hv1 hv2 hv3
  have hle : ys.length * d.sz ≤ c * d.sz := Nat.mul_le_mul_right _ hc1
  have hik : i * d.sz ≤ ys.length * d.sz := Nat.mul_le_mul_right _ hi
  have hbl := setCells_block L w g (i * d.sz) hg
  have hsl : (ys.take i).length = i := by rw [List.length_take]; omega
  have e1 : (putL cur (i * d.sz) L).toList.take (i * d.sz) = inner.take (i * d.sz) := by
    apply List.ext_getElem?
    intro t
    rw [List.getElem?_take, List.getElem?_take]
    by_cases ht : t < i * d.sz
    · rw [if_pos ht, if_pos ht, Array.getElem?_toList, putL_before _ _ _ _ ht, ← htk, List.getElem?_take, if_pos (by omega), Array.getElem?_toList]
    · rw [if_neg ht, if_neg ht]
  refine ⟨fun k hk => hok k hk, inner.take (i * d.sz), ⟨by rw [hsl, List.length_take]; omega, .inr ⟨g, c, _, by rw [hsl], hb, hbl, by rw [hsl]; omega, hc2, by rw [putL_size, hcs], by rw [hsl]; exact e1⟩⟩, by rw [hsl, List.length_take]; omega, fun j p hp => ?_⟩
  rw [List.getElem?_take] at hp
  have hji : j < i := by
    rcases Nat.lt_or_ge j i with h | h
    · exact h
    · rw [if_neg (by omega)] at hp; cases hp
  rw [if_pos hji] at hp
  have hw := hE _ _ _ _ _ (hrw j p hp)
  have hjk : j * d.sz + d.sz ≤ i * d.sz := by have := Nat.mul_le_mul_right d.sz (show j + 1 ≤ i from hji); rwa [Nat.add_mul, Nat.one_mul] at this
  have hall : List.take d.sz (List.drop (j * d.sz) (inner.take (i * d.sz))) = enc p := by
    rw [← hw]
    apply List.ext_getElem?
    intro t
    rw [List.getElem?_take, List.getElem?_take]
    by_cases ht : t < d.sz
    · rw [if_pos ht, if_pos ht, List.getElem?_drop, List.getElem?_drop, List.getElem?_take, if_pos (by omega)]
    · rw [if_neg ht, if_neg ht]
  rw [hall]
  exact hM _ _ _ p
end
/-- 'clear(s)' at structs. -/
theorem run_clear_row {P : Program} (w : World) (t e ty : TypeId) (z : Value) (ht : P.underlying t = some (.slice e)) (hv : ∀ w, (zeroValue e).run P w = .ok z w) (h1 : ∀ u ∈ z.cells.toList, u.oneCell' = true) (b o n c : Nat) (hn : 0 < n)
    (hc : ∀ j, j < n * z.cells.size → (w.cell? ⟨b, o + j, none⟩).isSome = true) (hf : ∀ j, j < n * z.cells.size → w.frozen? ⟨b, o + j, none⟩ = false) :
    (Builtin.clear_ #[t] ty #[.slice (some ⟨b, o, none⟩) n c]).run P w = .ok (.tuple #[]) (w.setCells b o (Builtin.zeroCells z.cells n).toList) := by
  have hlen : (Builtin.zeroCells z.cells n).toList.length = n * z.cells.size := by simp [Builtin.zeroCells]
  have hst := run_storeCells_cells (P := P) b o (Builtin.zeroCells z.cells n).toList 0 w (by rw [hlen]; simpa using hc) (by rw [hlen]; simpa using hf) (by
    intro v hv'
    simp only [Builtin.zeroCells, Array.toList_map, List.mem_map] at hv'
    obtain ⟨j, hj, rfl⟩ := hv'
    have hj2 : j < n * z.cells.size := by simpa using hj
    have hz : 0 < z.cells.size := Nat.pos_of_ne_zero fun h0 => by rw [h0] at hj2; omega
    rw [getElem!_pos z.cells (j % z.cells.size) (Nat.mod_lt _ hz)]
    exact h1 _ (by simp))
  simp only [Nat.add_zero] at hst
  obtain ⟨m, rfl⟩ : ∃ m, n = m + 1 := ⟨n - 1, by omega⟩
  simp [Builtin.clear_, run_underlying ht, hv, hst]
end Go.Proofs.Ytcpjfpbfopkngaa.Thw
