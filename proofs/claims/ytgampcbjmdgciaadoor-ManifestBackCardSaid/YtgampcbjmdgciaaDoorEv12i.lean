/- Layer 12: a manifest for the document; are two the same. -/
import Derived.Test.YtgampcbjmdgciaaDoorEv12d
import Derived.Test.YtgampcbjmdgciaaDoorPrint10
import Derived.Test.YtgampcbjmdgciaaDoorPrint7
namespace Go.Proofs.YtgampcbjmdgciaaDoor.Thw
open Go Go.RowKit Go.Proofs.YtgampcbjmdgciaaDoor.Print Go.Proofs.YtgampcbjmdgciaaDoorW.PrintWords Go.Proofs.YtgampcbjmdgciaaDoorW.PrintLast Go.Proofs.YtgampcbjmdgciaaDoorW.PrintMore
set_option linter.unusedVariables false
set_option linter.unusedSimpArgs false
abbrev SgR := S48
instance : DecidableEq SgR := fun x y =>
  if h : x.f0 = y.f0 ∧ x.f1 = y.f1 ∧ x.f2 = y.f2 then isTrue (by obtain ⟨a, b, c⟩ := x; obtain ⟨d, e, f⟩ := y; obtain ⟨h1, h2, h3⟩ := h; simp only at h1 h2 h3; rw [h1, h2, h3]) else isFalse (fun e => h (by rw [e]; exact ⟨rfl, rfl, rfl⟩))
def cR (x : SgI) : SgR := ⟨x.f0, x.f1, x.f2⟩
theorem cR_inj {x y : SgI} (h : cR x = cR y) : x = y := by
  obtain ⟨a, b, c⟩ := x
  obtain ⟨d, e, f⟩ := y
  unfold cR at h
  injection h with h1 h2 h3
  subst h1 h2 h3
  rfl
theorem ev_to (v : Int) (l : List SgI) (hl : l.length ≤ 1000000) : Ev (fun k => thwartlaw12_to.f k v l) (v, l.map cR) := by
  have step : ∀ (d i : Nat), i + d = l.length → Ev (fun k => thwartlaw12_to.l0 k (i : Int) v l v ((l.take i).map cR)) (v, l.map cR) := by
    intro d
    induction d with
    | zero =>
      intro i hi
      have ht : l.take i = l := List.take_of_length_le (by omega)
      rw [ht]
      refine Ev.step (f := fun _ => some (v, l.map cR)) (fun k => ?_) (ev_some fun _ => rfl)
      rw [thwartlaw12_to.l0, if_neg (by omega)]
    | succ d ih =>
      intro i hi
      have hlt : i < l.length := by omega
      have hx : rd_T46 l (i : Int) = l[i] := by
        unfold rd_T46
        rw [Int.toNat_natCast, List.getD_eq_getElem?_getD, List.getElem?_eq_getElem hlt]
        rfl
      have hi1 : wrap64 ((i : Int) + 1) = ((i + 1 : Nat) : Int) := by rw [wrap64_in (by omega) (by omega)]; omega
      have ih' := ih (i + 1) (by omega)
      rw [List.take_succ_eq_append_getElem hlt, List.map_append, List.map_singleton] at ih'
      refine Ev.step (f := fun k => thwartlaw12_to.l0 k ((i + 1 : Nat) : Int) v l v ((l.take i).map cR ++ [cR l[i]])) (fun k => ?_) ih'
      rw [thwartlaw12_to.l0, if_pos (by omega), if_pos (by omega), if_pos (by rw [List.length_map, List.length_take]; omega), hx, hi1]
      rfl
  have h0 := step l.length 0 (by omega)
  unfold thwartlaw12_to.f
  exact h0
theorem ev_Same (v v' : Int) (l l' : List SgR) (hl : l.length ≤ 1000000) (hl' : l'.length ≤ 1000000) : Ev (fun k => thwartref12_Same.f k v l v' l') (decide (v = v' ∧ l = l')) := by
  unfold thwartref12_Same.f
  by_cases hv : v = v'
  · refine ev_if_pos hv ?_
    subst hv
    by_cases hn : l.length = l'.length
    · have e0 : ((l.length : Int) != (l'.length : Int)) = false := by rw [hn]; simp
      rw [e0]
      have step : ∀ (d i : Nat), i + d = l.length → l.take i = l'.take i → Ev (fun k => thwartref12_Same.l0 k (i : Int) v l v l') (decide (v = v ∧ l = l')) := by
        intro d
        induction d with
        | zero =>
          intro i hi ht
          rw [List.take_of_length_le (by omega), List.take_of_length_le (by omega)] at ht
          refine Ev.step (f := fun _ => some true) (fun k => ?_) (ev_some fun _ => ?_)
          · rw [thwartref12_Same.l0, if_neg (by omega)]
          · rw [decide_eq_true ⟨rfl, ht⟩]
        | succ d ih =>
          intro i hi ht
          have hlt : i < l.length := by omega
          have hlt' : i < l'.length := by omega
          have hx : rd_T48 l (i : Int) = l[i] := by
            unfold rd_T48
            rw [Int.toNat_natCast, List.getD_eq_getElem?_getD, List.getElem?_eq_getElem hlt]
            rfl
          have hx' : rd_T48 l' (i : Int) = l'[i] := by
            unfold rd_T48
            rw [Int.toNat_natCast, List.getD_eq_getElem?_getD, List.getElem?_eq_getElem hlt']
            rfl
          have hi1 : wrap64 ((i : Int) + 1) = ((i + 1 : Nat) : Int) := by rw [wrap64_in (by omega) (by omega)]; omega
          have hc1 : (i : Int) < (l.length : Int) := by omega
          have hc2 : (0 : Int) ≤ (i : Int) := by omega
          have hc3 : (i : Int) < (l'.length : Int) := by omega
          by_cases he : l[i] = l'[i]
          · have ih' := ih (i + 1) (by omega) (by rw [List.take_succ_eq_append_getElem hlt, List.take_succ_eq_append_getElem hlt', ht, he])
            refine Ev.step (f := fun k => thwartref12_Same.l0 k ((i + 1 : Nat) : Int) v l v l') (fun k => ?_) ih'
            rw [thwartref12_Same.l0, if_pos hc1, if_pos hc2, if_pos hc3, hx, hx', he, hi1]
            rw [if_neg (by simp)]
          · refine Ev.step (f := fun _ => some false) (fun k => ?_) (ev_some fun _ => ?_)
            · rw [thwartref12_Same.l0, if_pos hc1, if_pos hc2, if_pos hc3, hx, hx']
              rw [if_pos ?_]
              apply Classical.byContradiction
              intro hne
              apply he
              generalize l[i] = x at hne ⊢
              generalize l'[i] = y at hne ⊢
              obtain ⟨a, b, c⟩ := x
              obtain ⟨d', e, f⟩ := y
              simp at hne
              obtain ⟨h1, h2, h3⟩ := hne
              rw [h1, h2, h3]
            · rw [decide_eq_false]
              rintro ⟨_, h⟩
              apply he
              simp only [h]
      refine Ev.step (f := fun k => thwartref12_Same.l0 k 0 v l v l') (fun k => ?_) (step l.length 0 (by omega) rfl)
      rw [thwartref12_Same.j0, if_neg (by simp)]
    · have e0 : ((l.length : Int) != (l'.length : Int)) = true := by
        rw [bne_iff_ne]
        omega
      rw [e0]
      refine Ev.step (f := fun _ => some false) (fun k => ?_) (ev_some fun _ => ?_)
      · rw [thwartref12_Same.j0, if_pos rfl]
      · rw [decide_eq_false]
        rintro ⟨_, h⟩
        exact hn (by rw [h])
  · refine ev_if_neg hv ?_
    refine Ev.step (f := fun _ => some false) (fun k => ?_) (ev_some fun _ => ?_)
    · rw [thwartref12_Same.j0, if_pos rfl]
    · rw [decide_eq_false]
      rintro ⟨h, _⟩
      exact hv h
theorem to_calls (v : Int) (l : List SgI) (hl : l.length ≤ 1000000) (A : Option Addr) (c : Nat) (W : World) (hC : Kd.C k46 W A l.length l) (hc : l.length ≤ c) :
    Calls Tryd.prog 10 #[.agg #[.int .i64 v, .slice A l.length c]] W fun e w' => ∃ A' c', e = .returned (.agg #[.int .i64 v, .slice A' l.length c']) ∧ Kd.R k48 48 w' W.heap.size (fun _ => True) (.slice A' l.length c') (l.map cR) ∧ Below W.heap.size W w' := by
  obtain ⟨q, hq⟩ := Ev.rounds (ev_to v l hl)
  refine (thwartlaw12_to.calls q v A c l v (l.map cR) W hC hc hq).mono ?_
  rintro e w' ⟨v1, rfl, hR, hb⟩
  obtain ⟨A', c', rfl⟩ := Kd.R_slice hR
  rw [List.length_map] at hR ⊢
  exact ⟨A', c', rfl, hR, hb⟩
theorem same_calls (v v' : Int) (l l' : List SgR) (hl : l.length ≤ 1000000) (hl' : l'.length ≤ 1000000) (A A' : Option Addr) (n n' c c' : Nat) (W : World) (b b' : Nat) (ok ok' : Nat → Prop) (hR : Kd.R k48 48 W b ok (.slice A n c) l) (hR' : Kd.R k48 48 W b' ok' (.slice A' n' c') l') :
    Calls Tryd.prog 13 #[.agg #[.int .i64 v, .slice A n c], .agg #[.int .i64 v', .slice A' n' c']] W fun e w' => e = .returned (.bool (decide (v = v' ∧ l = l'))) ∧ Below W.heap.size W w' := by
  obtain ⟨q, hq⟩ := Ev.rounds (ev_Same v v' l l' hl hl')
  obtain ⟨rfl, hc, hC⟩ := Kd.R_reads' hR
  obtain ⟨rfl, hc', hC'⟩ := Kd.R_reads' hR'
  exact thwartref12_Same.calls q v A c l v' A' c' l' _ W hC hc hC' hc' hq
end Go.Proofs.YtgampcbjmdgciaaDoor.Thw
