/- Layer 14 (upload): what the printed functions come to, and the statements UploadFirst and UploadBound. -/
import Derived.Test.YtcahpaoeailajaaPrint8
import Derived.Test.YtcahpaoeailajaaPrint9
import Derived.Test.YtcahpaoeailajaaEvA
namespace Go.Proofs.Ytcahpaoeailajaa.Thw
open Go Go.RowKit Go.Proofs.Ytcahpaoeailajaa.Print Go.Proofs.YtcahpaoeailajaaW.PrintWords Go.Proofs.YtcahpaoeailajaaW.PrintLast Go.Proofs.YtcahpaoeailajaaW.PrintMore
set_option linter.unusedVariables false
set_option linter.unusedSimpArgs false
set_option linter.unusedSectionVars false
abbrev UpU := S40
abbrev UpR := S38
abbrev zU := z40
abbrev zR := z38

def dueB (s nx now : Int) : Bool := decide ((s = 0 ∨ s = 1) ∧ nx ≤ now)
theorem due_f (s t nx now : Int) : upload_Due.f s t nx now = some (dueB s nx now) := by
  unfold upload_Due.f upload_Up_goes.f dueB
  by_cases h0 : s = 0
  · subst h0; simp
  · by_cases h1 : s = 1
    · subst h1; simp
    · rw [if_neg h0]; simp [h0, h1]
theorem rdue_f (s t nx now : Int) : thwartref14_Due.f s t nx now = some (dueB s nx now) := by
  unfold thwartref14_Due.f dueB
  by_cases h0 : s = 0
  · subst h0; simp
  · by_cases h1 : s = 1
    · subst h1; simp
    · rw [if_neg h0, if_neg h1]; simp [h0, h1]
theorem ev_awake14 : Ev (fun k => thwartlaw14_awake.f k) true := Ev.of (fun k => thwartlaw14_awake.mono k) (k := 12) (by decide +kernel)

theorem rdU (l : List UpU) (i : Nat) (h : i < l.length) : rd_T40 l (i : Int) = l[i] := by
  simp [rd_T40, List.getD_eq_getElem?_getD, List.getElem?_eq_getElem h]
theorem rdR (l : List UpR) (i : Nat) (h : i < l.length) : rd_T38 l (i : Int) = l[i] := by
  simp [rd_T38, List.getD_eq_getElem?_getD, List.getElem?_eq_getElem h]
def toR (u : UpU) : UpR := ⟨u.f0, u.f1, u.f2⟩
/-- What the place 'at' is worth when i ones have been looked at. -/
def FirstInv (now : Int) (l : List UpU) (i : Nat) (a : Int) : Prop :=
  (a = -1 ∧ ∀ j (h : j < l.length), j < i → dueB l[j].f0 l[j].f2 now = false) ∨
  ∃ m : Nat, a = (m : Int) ∧ m < i ∧ ∃ h : m < l.length, dueB l[m].f0 l[m].f2 now = true ∧ ∀ j (hj : j < l.length), j < i → dueB l[j].f0 l[j].f2 now = true → l[m].f2 ≤ l[j].f2
theorem ev_first (now : Int) (l : List UpU) (hl : l.length ≤ 1000) : ∀ (d i : Nat) (a : Int), i + d = l.length → FirstInv now l i a →
    ∃ r, Ev (fun k => upload_First.l0 k now l a l (l.length : Int) (i : Int)) r ∧ Ev (fun k => thwartref14_First.l0 k now (l.map toR) a (i : Int)) r ∧ FirstInv now l l.length r
  | 0, i, a, e, h => by
    obtain rfl : i = l.length := by omega
    refine ⟨a, ?_, ?_, h⟩
    · refine Ev.step (f := fun k => some a) (fun k => ?_) (Ev.now _)
      simp only [upload_First.l0]
      rw [if_neg (by omega)]
    · refine Ev.step (f := fun k => some a) (fun k => ?_) (Ev.now _)
      simp only [thwartref14_First.l0, List.length_map]
      rw [if_neg (by omega)]
  | d + 1, i, a, e, h => by
    have hi : i < l.length := by omega
    have hir : i < (l.map toR).length := by rw [List.length_map]; exact hi
    have hw : wrap64 ((i : Int) + 1) = ((i + 1 : Nat) : Int) := by rw [wrap64_in (by omega) (by omega)]; omega
    have e1 : (l.map toR)[i] = toR l[i] := List.getElem_map ..
    cases hd : dueB l[i].f0 l[i].f2 now with
    | false =>
      have h' : FirstInv now l (i + 1) a := by
        rcases h with ⟨rfl, h⟩ | ⟨m, rfl, hm, hml, hdm, h⟩
        · refine .inl ⟨rfl, fun j hj hji => ?_⟩
          rcases Nat.lt_or_ge j i with h1 | h1
          · exact h j hj h1
          · obtain rfl : j = i := by omega
            exact hd
        · refine .inr ⟨m, rfl, by omega, hml, hdm, fun j hj hji hdj => ?_⟩
          rcases Nat.lt_or_ge j i with h1 | h1
          · exact h j hj h1 hdj
          · obtain rfl : j = i := by omega
            rw [hd] at hdj; cases hdj
      obtain ⟨r, h1, h2, h3⟩ := ev_first now l hl d (i + 1) a (by omega) h'
      refine ⟨r, ?_, ?_, h3⟩
      · refine Ev.step (f := fun k => upload_First.l0 k now l a l (l.length : Int) ((i + 1 : Nat) : Int)) (fun k => ?_) h1
        simp only [upload_First.l0]
        rw [if_pos (by omega), if_pos (by omega), if_pos (by omega), rdU l i hi, due_f, Option.bind_some, hd, if_neg (by decide), hw]
      · refine Ev.step (f := fun k => thwartref14_First.l0 k now (l.map toR) a ((i + 1 : Nat) : Int)) (fun k => ?_) h2
        simp only [thwartref14_First.l0, List.length_map]
        rw [if_pos (by omega), if_pos (by omega), rdR _ i hir, e1, toR, rdue_f, Option.bind_some, hd, if_neg (by decide), hw]
    | true =>
      rcases h with ⟨rfl, h⟩ | ⟨m, rfl, hm, hml, hdm, h⟩
      · have h' : FirstInv now l (i + 1) (i : Int) := by
          refine .inr ⟨i, rfl, by omega, hi, hd, fun j hj hji hdj => ?_⟩
          rcases Nat.lt_or_ge j i with h1 | h1
          · rw [h j hj h1] at hdj; cases hdj
          · obtain rfl : j = i := by omega
            exact Int.le_refl _
        obtain ⟨r, h1, h2, h3⟩ := ev_first now l hl d (i + 1) i (by omega) h'
        refine ⟨r, ?_, ?_, h3⟩
        · refine Ev.step (f := fun k => upload_First.l0 k now l (i : Int) l (l.length : Int) ((i + 1 : Nat) : Int)) (fun k => ?_) h1
          simp only [upload_First.l0]
          rw [if_pos (by omega), if_pos (by omega), if_pos (by omega), rdU l i hi, due_f, Option.bind_some, hd, if_pos rfl, if_pos trivial, hw]
        · refine Ev.step (f := fun k => thwartref14_First.l0 k now (l.map toR) (i : Int) ((i + 1 : Nat) : Int)) (fun k => ?_) h2
          simp only [thwartref14_First.l0, List.length_map]
          rw [if_pos (by omega), if_pos (by omega), rdR _ i hir, e1, toR, rdue_f, Option.bind_some, hd, if_pos rfl, if_pos (by decide), hw]
      · have hmr : m < (l.map toR).length := by rw [List.length_map]; exact hml
        have e2 : (l.map toR)[m] = toR l[m] := List.getElem_map ..
        by_cases hlt : l[i].f2 < l[m].f2
        · have h' : FirstInv now l (i + 1) (i : Int) := by
            refine .inr ⟨i, rfl, by omega, hi, hd, fun j hj hji hdj => ?_⟩
            rcases Nat.lt_or_ge j i with h1 | h1
            · have := h j hj h1 hdj; omega
            · obtain rfl : j = i := by omega
              exact Int.le_refl _
          obtain ⟨r, h1, h2, h3⟩ := ev_first now l hl d (i + 1) i (by omega) h'
          refine ⟨r, ?_, ?_, h3⟩
          · refine Ev.step (f := fun k => upload_First.l0 k now l (i : Int) l (l.length : Int) ((i + 1 : Nat) : Int)) (fun k => ?_) h1
            simp only [upload_First.l0]
            rw [if_pos (by omega), if_pos (by omega), if_pos (by omega), rdU l i hi, due_f, Option.bind_some, hd, if_pos rfl, if_neg (by omega), if_pos (by omega), if_pos (by omega), rdU l m hml, if_pos hlt, hw]
          · refine Ev.step (f := fun k => thwartref14_First.l0 k now (l.map toR) (i : Int) ((i + 1 : Nat) : Int)) (fun k => ?_) h2
            simp only [thwartref14_First.l0, List.length_map]
            rw [if_pos (by omega), if_pos (by omega), rdR _ i hir, e1, toR, rdue_f, Option.bind_some, hd, if_pos rfl, if_neg (by omega), if_pos (by omega), if_pos (by omega), rdR _ m hmr, e2, toR, if_pos hlt, hw]
        · have h' : FirstInv now l (i + 1) (m : Int) := by
            refine .inr ⟨m, rfl, by omega, hml, hdm, fun j hj hji hdj => ?_⟩
            rcases Nat.lt_or_ge j i with h1 | h1
            · exact h j hj h1 hdj
            · obtain rfl : j = i := by omega
              omega
          obtain ⟨r, h1, h2, h3⟩ := ev_first now l hl d (i + 1) m (by omega) h'
          refine ⟨r, ?_, ?_, h3⟩
          · refine Ev.step (f := fun k => upload_First.l0 k now l (m : Int) l (l.length : Int) ((i + 1 : Nat) : Int)) (fun k => ?_) h1
            simp only [upload_First.l0]
            rw [if_pos (by omega), if_pos (by omega), if_pos (by omega), rdU l i hi, due_f, Option.bind_some, hd, if_pos rfl, if_neg (by omega), if_pos (by omega), if_pos (by omega), rdU l m hml, if_neg hlt, hw]
          · refine Ev.step (f := fun k => thwartref14_First.l0 k now (l.map toR) (m : Int) ((i + 1 : Nat) : Int)) (fun k => ?_) h2
            simp only [thwartref14_First.l0, List.length_map]
            rw [if_pos (by omega), if_pos (by omega), rdR _ i hir, e1, toR, rdue_f, Option.bind_some, hd, if_pos rfl, if_neg (by omega), if_pos (by omega), if_pos (by omega), rdR _ m hmr, e2, toR, if_neg hlt, hw]
/-- The law's own last loop. -/
theorem ev_last (now : Int) (l : List UpU) (hl : l.length ≤ 1000) (a : Int) (h : FirstInv now l l.length a) : ∀ (d i : Nat), i + d = l.length →
    Ev (fun k => thwartlaw14_UploadFirst.l1 k now l true a (i : Int)) true
  | 0, i, e => by
    rcases h with ⟨rfl, h⟩ | ⟨m, rfl, hm, hml, hdm, h⟩
    · refine Ev.step (f := fun k => some true) (fun k => ?_) (Ev.now _)
      simp only [thwartlaw14_UploadFirst.l1]
      rw [if_neg (by omega), if_pos trivial, if_pos (by decide)]
    · refine Ev.step (f := fun k => some true) (fun k => ?_) (Ev.now _)
      simp only [thwartlaw14_UploadFirst.l1]
      rw [if_neg (by omega), if_pos trivial, if_neg (by omega), if_pos (by omega), if_pos (by omega), rdU l m hml, due_f, Option.bind_some, hdm]
  | d + 1, i, e => by
    have hi : i < l.length := by omega
    have hw : wrap64 ((i : Int) + 1) = ((i + 1 : Nat) : Int) := by rw [wrap64_in (by omega) (by omega)]; omega
    refine Ev.step (f := fun k => thwartlaw14_UploadFirst.l1 k now l true a ((i + 1 : Nat) : Int)) (fun k => ?_) (ev_last now l hl a h d (i + 1) (by omega))
    simp only [thwartlaw14_UploadFirst.l1]
    rw [if_pos (by omega), if_pos (by omega), rdU l i hi, due_f, Option.bind_some]
    cases hd : dueB l[i].f0 l[i].f2 now with
    | false => rw [if_neg (by decide), hw]
    | true =>
      rcases h with ⟨rfl, h⟩ | ⟨m, rfl, hm, hml, hdm, h⟩
      · rw [h i hi hi] at hd; cases hd
      · have := h i hi hi hd
        rw [if_pos rfl, if_neg (by omega), if_pos (by omega), if_pos (by omega), rdU l m hml, if_neg (by omega), hw]
theorem ev_build (now : Int) (l : List UpU) (hl : l.length ≤ 1000) : ∀ (d i : Nat), i + d = l.length →
    Ev (fun k => thwartlaw14_UploadFirst.l0 k now l true ((l.take i).map toR) (i : Int)) true
  | 0, i, e => by
    obtain rfl : i = l.length := by omega
    rw [List.take_length]
    obtain ⟨r, h1, h2, h3⟩ := ev_first now l hl l.length 0 (-1) (by omega) (.inl ⟨rfl, fun j _ h => absurd h (by omega)⟩)
    refine Ev.step (f := fun k => (upload_First.f k now l).bind fun t158 => ((thwartref14_First.f k now (l.map toR)).bind fun t159 => (if t158 = t159 then (if t158 < (-1) then (thwartlaw14_UploadFirst.j1 k now l true t158 true) else (thwartlaw14_UploadFirst.j1 k now l true t158 (decide (t158 ≥ (l.length : Int))))) else (thwartlaw14_UploadFirst.j1 k now l true t158 true)))) (fun k => ?_) ?_
    · simp only [thwartlaw14_UploadFirst.l0]
      rw [if_neg (by omega)]
    · refine Ev.bind h1 ?_
      refine Ev.bind h2 ?_
      refine ev_if_pos rfl ?_
      have hr : ¬ r < -1 ∧ ¬ r ≥ (l.length : Int) := by
        rcases h3 with ⟨rfl, _⟩ | ⟨m, rfl, hm, _⟩ <;> omega
      refine ev_if_neg hr.1 ?_
      rw [decide_eq_false hr.2]
      refine Ev.step (f := fun k => thwartlaw14_UploadFirst.l1 k now l true r 0) (fun k => ?_) (ev_last now l hl r h3 l.length 0 (by omega))
      simp only [thwartlaw14_UploadFirst.j1]
      rw [if_neg (by decide)]
  | d + 1, i, e => by
    have hi : i < l.length := by omega
    have hw : wrap64 ((i : Int) + 1) = ((i + 1 : Nat) : Int) := by rw [wrap64_in (by omega) (by omega)]; omega
    refine Ev.step (f := fun k => thwartlaw14_UploadFirst.l0 k now l true ((l.take (i + 1)).map toR) ((i + 1 : Nat) : Int)) (fun k => ?_) (ev_build now l hl d (i + 1) (by omega))
    simp only [thwartlaw14_UploadFirst.l0, thwartlaw14_to.f]
    rw [if_pos (by omega), if_pos (by omega), Option.bind_some, if_pos (by rw [List.length_map, List.length_take]; omega), rdU l i hi, hw, List.take_succ_eq_append_getElem hi, List.map_append]
    rfl
theorem pureUploadFirst : thwartlaw14_UploadFirst.Pure := by
  intro now l _ _ _
  apply Ev.rounds
  unfold thwartlaw14_UploadFirst.f
  refine Ev.bind ev_awake14 ?_
  by_cases hz : (l.length : Int) > 100
  · exact ev_if_pos hz (Ev.now _)
  refine ev_if_neg hz ?_
  have := ev_build now l (by omega) l.length 0 (by omega)
  exact this

/-! ### UploadBound -/
def restI (t : Int) : Int := if t < 1 then 1 else if t < 7 then 2 ^ t.toNat else 64
theorem restI_range (t : Int) : 1 ≤ restI t ∧ restI t ≤ 64 := by
  unfold restI
  split
  · omega
  split
  · rename_i h1 h2
    have : t.toNat = 1 ∨ t.toNat = 2 ∨ t.toNat = 3 ∨ t.toNat = 4 ∨ t.toNat = 5 ∨ t.toNat = 6 := by omega
    rcases this with h | h | h | h | h | h <;> rw [h] <;> omega
  · omega
theorem rest_f (t : Int) : upload_rest.f t = some (restI t) := by
  unfold upload_rest.f restI
  by_cases h : t < 1
  · rw [if_pos h, if_pos h]
  rw [if_neg h, if_neg h]
  by_cases h2 : t < 7
  · have hm : mn t 6 = t := by unfold mn; split <;> omega
    rw [hm, if_pos (by omega), if_pos h2]
    have : t.toNat = 1 ∨ t.toNat = 2 ∨ t.toNat = 3 ∨ t.toNat = 4 ∨ t.toNat = 5 ∨ t.toNat = 6 := by omega
    rcases this with h | h | h | h | h | h <;> rw [h] <;> decide +kernel
  · have hm : mn t 6 = 6 := by unfold mn; split <;> omega
    rw [hm, if_pos (by omega), if_neg h2]
    decide +kernel
theorem step_idle (s t nx now : Int) (w : Bool) (h : dueB s nx now = false) : upload_Step.f s t nx now w = some (s, t, nx) := by
  unfold upload_Step.f
  rw [due_f, Option.bind_some, h, if_neg (by decide)]
theorem step_well (s t nx now : Int) (h : dueB s nx now = true) : upload_Step.f s t nx now true = some (wrap64 (s + 1), 0, now) := by
  unfold upload_Step.f
  rw [due_f, Option.bind_some, h, if_pos rfl, if_pos rfl]
theorem step_fail (s t nx now : Int) (h : dueB s nx now = true) : upload_Step.f s t nx now false = some (s, wrap64 (t + 1), wrap64 (now + restI (wrap64 (t + 1)))) := by
  unfold upload_Step.f
  rw [due_f, Option.bind_some, h, if_pos rfl, if_neg (by decide), rest_f, Option.bind_some]
/-- When the j-th step is tried. -/
def timeI (a0 t : Int) : Nat → Int
  | 0 => a0
  | j + 1 => timeI a0 t j + restI (t + j + 1)
theorem timeI_range (a0 t : Int) : ∀ j : Nat, a0 + j ≤ timeI a0 t j ∧ timeI a0 t j ≤ a0 + 64 * j
  | 0 => by simp [timeI]
  | j + 1 => by
    have h1 := timeI_range a0 t j
    have h2 := restI_range (t + j + 1)
    rw [timeI]; omega
theorem timeI_le (a0 t : Int) (j k : Nat) (h : j ≤ k) : timeI a0 t j ≤ timeI a0 t k := by
  obtain ⟨d, rfl⟩ : ∃ d, k = j + d := ⟨k - j, by omega⟩
  clear h
  induction d with
  | zero => exact Int.le_refl _
  | succ d ih =>
    have h2 := restI_range (t + ((j + d : Nat) : Int) + 1)
    rw [show j + (d + 1) = (j + d) + 1 by omega, timeI]; omega
/-- Ahead of when it rests, behind j fails. -/
def nextI (nx a0 t : Int) : Nat → Int
  | 0 => nx
  | j + 1 => timeI a0 t (j + 1)
theorem ev_ticks (s t nx now : Int) (fails : Nat) (a0 : Int) (hs : s = 0 ∨ s = 1) (ht : 0 ≤ t) (ht2 : t ≤ 1000) (hf : fails ≤ 20) (hn : 0 ≤ now) (hn2 : now ≤ 1000000) (hnx : 0 ≤ nx) (hnx2 : nx ≤ 1000000) (ha : Aside0 (a0 = if now < nx then nx else now)) (ha1 : now ≤ a0) (ha3 : nx ≤ a0) (ha4 : a0 ≤ 1000000) : ∀ (d j : Nat), j + d = fails →
    Ev (fun k => upload_Ticks.l0 k now (timeI a0 t j) (fails : Int) (j : Int) s (t + j) (nextI nx a0 t j)) (timeI a0 t fails - now + 2 - s)
  | 0, j, e => by
    obtain rfl : j = fails := by omega
    have hr := timeI_range a0 t j
    refine Ev.step (f := fun k => some (timeI a0 t j - now + 2 - s)) (fun k => ?_) (Ev.now _)
    simp only [upload_Ticks.l0]
    rw [if_neg (by omega), wrap64_in (n := timeI a0 t j - now) (by omega) (by omega), wrap64_in (n := timeI a0 t j - now + 2) (by omega) (by omega), wrap64_in (by omega) (by omega)]
  | d + 1, j, e => by
    have hr := timeI_range a0 t j
    have hr2 := restI_range (t + j + 1)
    have hdue : dueB s (nextI nx a0 t j) (timeI a0 t j) = true := by
      unfold dueB
      apply decide_eq_true
      refine ⟨hs, ?_⟩
      cases j with
      | zero => simp only [nextI, timeI]; omega
      | succ j => exact Int.le_refl _
    have hw : wrap64 ((j : Int) + 1) = ((j + 1 : Nat) : Int) := by rw [wrap64_in (by omega) (by omega)]; omega
    have ht1 : wrap64 (t + j + 1) = t + ((j + 1 : Nat) : Int) := by rw [wrap64_in (by omega) (by omega)]; omega
    refine Ev.step (f := fun k => upload_Ticks.l0 k now (timeI a0 t (j + 1)) (fails : Int) ((j + 1 : Nat) : Int) s (t + ((j + 1 : Nat) : Int)) (nextI nx a0 t (j + 1))) (fun k => ?_) (ev_ticks s t nx now fails a0 hs ht ht2 hf hn hn2 hnx hnx2 ha ha1 ha3 ha4 d (j + 1) (by omega))
    simp only [upload_Ticks.l0]
    rw [if_pos (by omega), step_fail _ _ _ _ hdue, Option.bind_some]
    simp only [ht1, hw]
    have hnx' : wrap64 (timeI a0 t j + restI (t + ((j + 1 : Nat) : Int))) = timeI a0 t (j + 1) := by
      have e3 : t + ((j + 1 : Nat) : Int) = t + j + 1 := by omega
      rw [e3, wrap64_in (by omega) (by omega), timeI]
    rw [hnx']
    rfl
section
variable (s t nx now : Int) (fails : Nat) (a0 N : Int) (hs : s = 0 ∨ s = 1) (ht : 0 ≤ t) (ht2 : t ≤ 1000) (hf : fails ≤ 20) (hn : 0 ≤ now) (hn2 : now ≤ 1000000) (hnx : 0 ≤ nx) (hnx2 : nx ≤ 1000000) (ha : Aside0 (a0 = if now < nx then nx else now)) (ha1 : now ≤ a0) (ha3 : nx ≤ a0) (ha4 : a0 ≤ 1000000) (hN : N = timeI a0 t fails - now + 2 - s)
include hs ht ht2 hf hn hn2 hnx hnx2 ha ha1 ha3 ha4 hN
theorem bound_end (left : Int) (hl : left ≤ 0) (t' nx' : Int) :
    Ev (fun k => thwartlaw14_UploadBound.l0 k now (fails : Int) true N left N s t nx 2 t' nx') true := by
  have hr := timeI_range a0 t fails
  refine Ev.step (f := fun k => some true) (fun k => ?_) (Ev.now _)
  simp only [thwartlaw14_UploadBound.l0]
  have hm : mx (wrap64 (nx - now)) 0 = a0 - now := by
    unfold mx
    rw [wrap64_in (by omega) (by omega)]
    have h_ := ha.out
    split <;> split at h_ <;> omega
  rw [if_neg (by omega), if_pos trivial, if_pos trivial, hm, wrap64_in (n := a0 - now + 2) (by omega) (by omega), wrap64_in (n := 64 * (fails : Int)) (by omega) (by omega), wrap64_in (by omega) (by omega), decide_eq_true (by omega)]
theorem bound_well (left : Int) (hl : left ≤ 0) (hl2 : -10 ≤ left) : ∀ (d : Nat) (s' t' nx' i : Int), s' = 0 ∨ s' = 1 → 0 ≤ i → i + (2 - s') = N → nx' ≤ now + i → (d : Int) = 1 - s' → ∀ left', left' ≤ 0 → -5 - s' ≤ left' →
    Ev (fun k => thwartlaw14_UploadBound.l0 k now (fails : Int) true N left' i s t nx s' t' nx') true := by
  have hr := timeI_range a0 t fails
  intro d
  induction d with
  | zero =>
    intro s' t' nx' i hs' hi hiN hnx' hd left' hl' hl2'
    have hdue : dueB s' nx' (now + i) = true := by unfold dueB; exact decide_eq_true ⟨hs', hnx'⟩
    obtain rfl : s' = 1 := by omega
    refine Ev.step (f := fun k => thwartlaw14_UploadBound.l0 k now (fails : Int) true N (left' - 1) N s t nx 2 0 (now + i)) (fun k => ?_) (bound_end s t nx now fails a0 N hs ht ht2 hf hn hn2 hnx hnx2 ha ha1 ha3 ha4 hN (left' - 1) (by omega) 0 (now + i))
    simp only [thwartlaw14_UploadBound.l0]
    rw [if_pos (by omega), if_neg (by omega), wrap64_in (n := now + i) (by omega) (by omega), due_f, Option.bind_some, hdue, decide_eq_true hl', step_well _ _ _ _ hdue, Option.bind_some, if_pos rfl, wrap64_in (n := left' - 1) (by omega) (by omega), wrap64_in (n := i + 1) (by omega) (by omega), wrap64_in (n := 1 + 1) (by omega) (by omega)]
    have e : i + 1 = N := by omega
    rw [e]
    rfl
  | succ d ih =>
    intro s' t' nx' i hs' hi hiN hnx' hd left' hl' hl2'
    have hdue : dueB s' nx' (now + i) = true := by unfold dueB; exact decide_eq_true ⟨hs', hnx'⟩
    obtain rfl : s' = 0 := by omega
    refine Ev.step (f := fun k => thwartlaw14_UploadBound.l0 k now (fails : Int) true N (left' - 1) (i + 1) s t nx 1 0 (now + i)) (fun k => ?_) (ih 1 0 (now + i) (i + 1) (by omega) (by omega) (by omega) (by omega) (by omega) (left' - 1) (by omega) (by omega))
    simp only [thwartlaw14_UploadBound.l0]
    rw [if_pos (by omega), if_neg (by omega), wrap64_in (n := now + i) (by omega) (by omega), due_f, Option.bind_some, hdue, decide_eq_true hl', step_well _ _ _ _ hdue, Option.bind_some, if_pos rfl, wrap64_in (n := left' - 1) (by omega) (by omega), wrap64_in (n := i + 1) (by omega) (by omega), wrap64_in (n := 0 + 1) (by omega) (by omega)]
    rfl
theorem bound_run : ∀ (m j : Nat) (i : Int), j ≤ fails → 0 ≤ i → now + i ≤ timeI a0 t j → (m : Int) = timeI a0 t fails - (now + i) →
    Ev (fun k => thwartlaw14_UploadBound.l0 k now (fails : Int) true N ((fails : Int) - j) i s t nx s (t + j) (nextI nx a0 t j)) true := by
  have hr := timeI_range a0 t fails
  intro m
  induction m using Nat.strongRecOn with
  | _ m ih =>
  intro j i hj hi hle hm
  have hrj := timeI_range a0 t j
  by_cases hw : now + i < timeI a0 t j
  · -- it rests
    have hidle : dueB s (nextI nx a0 t j) (now + i) = false := by
      unfold dueB
      apply decide_eq_false
      rintro ⟨_, h2⟩
      cases j with
      | zero => simp only [nextI, timeI] at h2 hw; have h_ := ha.out; split at h_ <;> omega
      | succ j => simp only [nextI] at h2; omega
    have hlt : i < N := by
      have h3 : timeI a0 t j ≤ timeI a0 t fails := timeI_le a0 t j fails hj
      omega
    have h3 : timeI a0 t j ≤ timeI a0 t fails := timeI_le a0 t j fails hj
    refine Ev.step (f := fun k => thwartlaw14_UploadBound.l0 k now (fails : Int) true N ((fails : Int) - j) (i + 1) s t nx s (t + j) (nextI nx a0 t j)) (fun k => ?_) (ih (m - 1) (by omega) j (i + 1) hj (by omega) (by omega) (by omega))
    simp only [thwartlaw14_UploadBound.l0]
    rw [if_pos hlt, if_neg (by omega), wrap64_in (n := now + i) (by omega) (by omega), due_f, Option.bind_some, hidle, step_idle _ _ _ _ _ hidle, Option.bind_some, if_neg (by decide), wrap64_in (n := i + 1) (by omega) (by omega)]
  · have hat : now + i = timeI a0 t j := by omega
    have hdue : dueB s (nextI nx a0 t j) (now + i) = true := by
      unfold dueB
      apply decide_eq_true
      refine ⟨hs, ?_⟩
      rw [hat]
      cases j with
      | zero => simp only [nextI, timeI]; omega
      | succ j => exact Int.le_refl _
    by_cases hjf : j = fails
    · subst hjf
      have hz : ((j : Int) - j) = 0 := by omega
      rw [hz]
      have hnl : nextI nx a0 t j ≤ now + i := by
        rw [hat]
        cases j with
        | zero => simp only [nextI, timeI]; omega
        | succ j => exact Int.le_refl _
      exact bound_well s t nx now j a0 N hs ht ht2 hf hn hn2 hnx hnx2 ha ha1 ha3 ha4 hN 0 (by omega) (by omega) (1 - s).toNat s (t + j) _ i hs hi (by omega) hnl (by omega) 0 (by omega) (by omega)
    · have hr2 := restI_range (t + j + 1)
      have h3 : timeI a0 t (j + 1) ≤ timeI a0 t fails := timeI_le a0 t (j + 1) fails (by omega)
      have h4 : timeI a0 t (j + 1) = timeI a0 t j + restI (t + j + 1) := rfl
      have ht1 : wrap64 (t + j + 1) = t + ((j + 1 : Nat) : Int) := by rw [wrap64_in (by omega) (by omega)]; omega
      refine Ev.step (f := fun k => thwartlaw14_UploadBound.l0 k now (fails : Int) true N ((fails : Int) - ((j + 1 : Nat) : Int)) (i + 1) s t nx s (t + ((j + 1 : Nat) : Int)) (nextI nx a0 t (j + 1))) (fun k => ?_) (ih (m - 1) (by omega) (j + 1) (i + 1) (by omega) (by omega) (by omega) (by omega))
      simp only [thwartlaw14_UploadBound.l0]
      rw [if_pos (by omega), if_neg (by omega), wrap64_in (n := now + i) (by omega) (by omega), due_f, Option.bind_some, hdue, decide_eq_false (by omega), step_fail _ _ _ _ hdue, Option.bind_some, if_pos rfl, wrap64_in (n := (fails : Int) - j - 1) (by omega) (by omega), wrap64_in (n := i + 1) (by omega) (by omega), ht1]
      have e5 : (fails : Int) - j - 1 = (fails : Int) - ((j + 1 : Nat) : Int) := by omega
      have e6 : wrap64 (now + i + restI (t + ((j + 1 : Nat) : Int))) = timeI a0 t (j + 1) := by
        have e3 : t + ((j + 1 : Nat) : Int) = t + j + 1 := by omega
        rw [e3, hat, wrap64_in (by omega) (by omega), h4]
      rw [e5, e6]
      rfl
end
theorem pureUploadBound : thwartlaw14_UploadBound.Pure := by
  rintro ⟨s, t, nx⟩ now fails _ _ _
  apply Ev.rounds
  simp only
  unfold thwartlaw14_UploadBound.f
  refine Ev.bind ev_awake14 ?_
  have tr : ∀ c, c = true → Ev (fun k => thwartlaw14_UploadBound.j0 k now fails true c s t nx) true := by
    intro c hc
    subst hc
    refine Ev.step (f := fun k => some true) (fun k => ?_) (Ev.now _)
    simp only [thwartlaw14_UploadBound.j0]
    rw [if_pos trivial]
  by_cases h1 : s < 0
  · exact ev_if_pos h1 (tr _ rfl)
  refine ev_if_neg h1 ?_
  by_cases h2 : s > 1
  · exact ev_if_pos h2 (tr _ rfl)
  refine ev_if_neg h2 ?_
  by_cases h3 : now < 0
  · exact ev_if_pos h3 (tr _ rfl)
  refine ev_if_neg h3 ?_
  by_cases h4 : now > 1000000
  · exact ev_if_pos h4 (tr _ rfl)
  refine ev_if_neg h4 ?_
  by_cases h5 : nx < 0
  · exact ev_if_pos h5 (tr _ rfl)
  refine ev_if_neg h5 ?_
  by_cases h6 : nx > 1000000
  · exact ev_if_pos h6 (tr _ rfl)
  refine ev_if_neg h6 ?_
  by_cases h7 : t < 0
  · exact ev_if_pos h7 (tr _ rfl)
  refine ev_if_neg h7 ?_
  by_cases h8 : t > 1000
  · exact ev_if_pos h8 (tr _ rfl)
  refine ev_if_neg h8 ?_
  by_cases h9 : fails < 0
  · exact ev_if_pos h9 (tr _ rfl)
  refine ev_if_neg h9 ?_
  by_cases h10 : fails > 20
  · exact ev_if_pos h10 (tr _ rfl)
  refine ev_if_neg h10 ?_
  rw [wrap64_in (n := nx - now) (by omega) (by omega)]
  by_cases h11 : nx - now > 500
  · exact tr _ (decide_eq_true h11)
  rw [decide_eq_false h11]
  obtain ⟨f, rfl⟩ := Int.eq_ofNat_of_zero_le (show 0 ≤ fails by omega)
  generalize ha : (if now < nx then nx else now) = a0
  have hA := Aside0.mk ha.symm
  have hr := timeI_range a0 t f
  have ha1 : now ≤ a0 := by rw [← ha]; split <;> omega
  have ha3 : nx ≤ a0 := by rw [← ha]; split <;> omega
  have ha4 : a0 ≤ 1000000 := by rw [← ha]; split <;> omega
  have hma : mx now nx = a0 := by unfold mx; exact ha
  clear ha
  have hs : s = 0 ∨ s = 1 := by omega
  have hN : Ev (fun k => upload_Ticks.f k s t nx now (f : Int)) (timeI a0 t f - now + 2 - s) := by
    unfold upload_Ticks.f upload_Up_goes.f upload_within.f
    have hg : (if s = 0 then some true else some (s == 1)) = some true := by rcases hs with rfl | rfl <;> rfl
    rw [hg]
    refine ev_bind_now rfl ?_
    refine ev_if_pos rfl ?_
    refine ev_bind_now (by rw [if_pos (by omega), decide_eq_true (by omega)]) ?_
    refine ev_if_pos rfl ?_
    refine ev_bind_now (by rw [if_pos (by omega), decide_eq_true (by omega)]) ?_
    refine ev_if_pos rfl ?_
    refine ev_bind_now (by rw [if_pos (by omega), decide_eq_true (by omega)]) ?_
    have hmm : mx (mn (f : Int) 20) 0 = (f : Int) := by
      have h_ : mn (f : Int) 20 = (f : Int) := by unfold mn; split <;> omega
      rw [h_]; unfold mx; split <;> omega
    refine Ev.step (f := fun k => upload_Ticks.l0 k now (timeI a0 t 0) (f : Int) ((0 : Nat) : Int) s (t + ((0 : Nat) : Int)) (nextI nx a0 t 0)) (fun k => ?_) (ev_ticks s t nx now f a0 hs (by omega) (by omega) (by omega) (by omega) (by omega) (by omega) (by omega) hA ha1 ha3 ha4 f 0 (by omega))
    simp only [upload_Ticks.j0]
    rw [if_neg (by decide), hmm, hma, show t + ((0 : Nat) : Int) = t by omega]
    rfl
  refine Ev.step (f := fun k => (upload_Ticks.f k s t nx now (f : Int)).bind fun t168 => (thwartlaw14_UploadBound.l0 k now (f : Int) true t168 (f : Int) 0 s t nx s t nx)) (fun k => ?_) ?_
  · simp only [thwartlaw14_UploadBound.j0]
    rw [if_neg (by decide)]
  · refine Ev.bind hN ?_
    have h0 : now + 0 ≤ timeI a0 t 0 := by simp only [timeI]; omega
    have := bound_run s t nx now f a0 _ hs (by omega) (by omega) (by omega) (by omega) (by omega) (by omega) (by omega) hA ha1 ha3 ha4 rfl (timeI a0 t f - now).toNat 0 0 (by omega) (by omega) h0 (by have := timeI_le a0 t 0 f (by omega); simp only [timeI] at this; omega)
    rw [show t + ((0 : Nat) : Int) = t by omega, show (f : Int) - ((0 : Nat) : Int) = (f : Int) by omega] at this
    exact this
end Go.Proofs.Ytcahpaoeailajaa.Thw
