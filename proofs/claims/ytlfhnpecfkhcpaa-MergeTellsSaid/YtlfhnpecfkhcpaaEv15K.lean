/- Layer 15: what is light, Newest, Live, Merge in plain words. -/
import Derived.Test.YtlfhnpecfkhcpaaPrint3
import Derived.Test.YtlfhnpecfkhcpaaPrint5
import Derived.Test.YtlfhnpecfkhcpaaPrint4
import Derived.Test.YtlfhnpecfkhcpaaEvA
import Derived.Test.YtlfhnpecfkhcpaaPlain15c
namespace Go.Proofs.Ytlfhnpecfkhcpaa.Thw
open Go Go.RowKit Go.Proofs.Ytlfhnpecfkhcpaa.Print Go.Proofs.YtlfhnpecfkhcpaaW.PrintWords Go.Proofs.YtlfhnpecfkhcpaaW.PrintLast Go.Proofs.YtlfhnpecfkhcpaaW.PrintMore
set_option linter.unusedVariables false
set_option linter.unusedSimpArgs false
abbrev SR := S36
abbrev keyS : SR → ByteArray := fun x => x.f1
abbrev numS : SR → Int := fun x => x.f0
theorem ev_awake15 : Ev (fun k => thwartlaw15_awake.f k) true := Ev.of (fun k => thwartlaw15_awake.mono k) (k := 20) (by decide +kernel)
theorem ev_same_self (l : List SR) (hn : l.length ≤ 1000000) : Ev (fun k => thwartref03_Same.f k l l) true := by
  have : ∀ d i : Nat, i + d = l.length → Ev (fun k => thwartref03_Same.l0 k l l (i : Int)) true := by
    intro d
    induction d with
    | zero =>
      intro i hi
      refine Ev.step (fun k => by rw [thwartref03_Same.l0]) ?_
      exact ev_if_neg (by omega) (Ev.now _)
    | succ d ih =>
      intro i hi
      refine Ev.step (fun k => by rw [thwartref03_Same.l0]) ?_
      refine ev_if_pos (by omega) ?_
      refine ev_if_pos (by omega) ?_
      refine ev_if_pos (by omega) ?_
      refine ev_if_neg (by simp) ?_
      rw [wrap64_in (by omega) (by omega)]
      exact ih (i + 1) (by omega)
  unfold thwartref03_Same.f
  exact ev_if_pos rfl (this l.length 0 (by omega))
/-! ### light -/
def OkL (l : List SR) : Prop := l.length ≤ 40 ∧ ∀ x ∈ l, x.f1.size ≤ 10000
theorem rdS_at {l : List SR} {i : Nat} (h : i < l.length) : rd_T36 l (i : Int) = l[i] := by
  unfold rd_T36
  rw [Int.toNat_natCast, List.getD_eq_getElem?_getD, List.getElem?_eq_getElem h]
  rfl
theorem ev_light3 (l : List SR) : ∃ r, Ev (fun k => thwartref03_Light.f k l) r ∧ (r = true → OkL l) := by
  have fin : ∀ (i : Nat) (x : Int), (i = l.length ∨ 100 ≤ i ∧ i ≤ l.length) → (∀ j (h : j < l.length), j < i → (l[j].f1.size : Int) ≤ x ∨ 10000 ≤ x) → ∃ r, Ev (fun _ => if (l.length : Int) ≤ 40 then some (decide (x < 4000)) else some false) r ∧ (r = true → OkL l) := by
    intro i x hi hj
    by_cases h : (l.length : Int) ≤ 40
    · refine ⟨_, ev_if_pos h (Ev.now _), fun h2 => ⟨by omega, fun y hy => ?_⟩⟩
      have h2 := of_decide_eq_true h2
      obtain ⟨j, hjl, rfl⟩ := List.mem_iff_getElem.1 hy
      have := hj j hjl (by omega)
      omega
    · exact ⟨_, ev_if_neg h (Ev.now _), fun h => by cases h⟩
  have : ∀ (d i : Nat) (x : Int), i + d = l.length → i ≤ 100 → 0 ≤ x → x ≤ 20000 * i → (∀ j (h : j < l.length), j < i → (l[j].f1.size : Int) ≤ x ∨ 10000 ≤ x) →
      ∃ r, Ev (fun k => thwartref03_Light.l0 k l x (i : Int)) r ∧ (r = true → OkL l) := by
    intro d
    induction d with
    | zero =>
      intro i x hi h100 h0 h1 hj
      obtain ⟨r, h2, h3⟩ := fin i x (Or.inl (by omega)) hj
      exact ⟨r, Ev.step (fun k => by rw [thwartref03_Light.l0]) (ev_if_neg (by omega) h2), h3⟩
    | succ d ih =>
      intro i x hi h100 h0 h1 hj
      by_cases h : i < 100
      · have hlt : i < l.length := by omega
        have e1 : (0 : Int) ≤ mn ((l[i].f1.size : Int)) 10000 ∧ mn ((l[i].f1.size : Int)) 10000 ≤ 10000 ∧ ((l[i].f1.size : Int) ≤ mn ((l[i].f1.size : Int)) 10000 ∨ 10000 ≤ mn ((l[i].f1.size : Int)) 10000) := by unfold mn; split <;> omega
        have e2 : (0 : Int) ≤ mn ((l[i].f2.size : Int)) 10000 ∧ mn ((l[i].f2.size : Int)) 10000 ≤ 10000 := by unfold mn; split <;> omega
        obtain ⟨r, h2, h3⟩ := ih (i + 1) (x + mn ((l[i].f1.size : Int)) 10000 + mn ((l[i].f2.size : Int)) 10000) (by omega) (by omega) (by omega) (by omega) (fun j hjl hji => by
          rcases Nat.lt_succ_iff_lt_or_eq.1 hji with h4 | rfl
          · have := hj j hjl h4
            omega
          · omega)
        refine ⟨r, Ev.step (fun k => by rw [thwartref03_Light.l0]) (ev_if_pos (by omega) (ev_if_pos (by omega) (ev_if_pos (by omega) ?_))), h3⟩
        rw [rdS_at hlt, wrap64_in (n := (i : Int) + 1) (by omega) (by omega), wrap64_in (n := x + mn ((l[i].f1.size : Int)) 10000) (by omega) (by omega), wrap64_in (by omega) (by omega)]
        exact h2
      · obtain ⟨r, h2, h3⟩ := fin i x (Or.inr ⟨by omega, by omega⟩) hj
        exact ⟨r, Ev.step (fun k => by rw [thwartref03_Light.l0]) (ev_if_pos (by omega) (ev_if_neg (by omega) h2)), h3⟩
  exact this l.length 0 0 (by omega) (by omega) (by omega) (by omega) (fun j _ hj => by omega)
def OkLs (ls : List (List SR)) : Prop := ls.length ≤ 20 ∧ ∀ l ∈ ls, OkL l
theorem rdL_at {ls : List (List SR)} {i : Nat} (h : i < ls.length) : rd_L4 ls (i : Int) = ls[i] := by
  unfold rd_L4
  rw [Int.toNat_natCast, List.getD_eq_getElem?_getD, List.getElem?_eq_getElem h]
  rfl
theorem ev_bt {α : Type} {g f : Nat → Option α} {r : α} (h : Ev g r) : Ev (fun k => if true = true then g k else f k) r := ev_if_pos rfl h
theorem ev_bf {α : Type} {g f : Nat → Option α} {r : α} (h : Ev f r) : Ev (fun k => if false = true then g k else f k) r := ev_if_neg (by simp) h
theorem ev_light (ls : List (List SR)) (hn : ls.length ≤ 1000000000000000) : ∃ r, Ev (fun k => thwartlaw15_light.f k ls) r ∧ (r = true → OkLs ls) := by
  have fin : ∀ (i : Nat) (x y : Int), (i = ls.length ∨ 30 ≤ i ∧ i ≤ ls.length) → (∀ j (h : j < ls.length), j < i → OkL ls[j]) → ∃ r, Ev (fun k => thwartref04_Light.j1 k ls x y false) r ∧ (r = true → OkLs ls) := by
    intro i x y hi hj
    by_cases h : (ls.length : Int) ≤ 20
    · refine ⟨_, Ev.step (fun k => by rw [thwartref04_Light.j1]) (ev_bf (ev_if_pos h (Ev.now _))), fun _ => ⟨by omega, fun l hl => ?_⟩⟩
      obtain ⟨j, hjl, rfl⟩ := List.mem_iff_getElem.1 hl
      exact hj j hjl (by omega)
    · exact ⟨_, Ev.step (fun k => by rw [thwartref04_Light.j1]) (ev_bf (ev_if_neg h (Ev.now _))), fun h => by cases h⟩
  have : ∀ (d i : Nat) (x : Int), i + d = ls.length → i ≤ 30 → (∀ j (h : j < ls.length), j < i → OkL ls[j]) → ∃ r, Ev (fun k => thwartref04_Light.l0 k ls x (i : Int)) r ∧ (r = true → OkLs ls) := by
    intro d
    induction d with
    | zero =>
      intro i x hi h30 hj
      obtain ⟨r, h1, h2⟩ := fin i x i (Or.inl (by omega)) hj
      exact ⟨r, Ev.step (fun k => by rw [thwartref04_Light.l0]) (ev_if_neg (by omega) h1), h2⟩
    | succ d ih =>
      intro i x hi h30 hj
      by_cases h : i < 30
      · have hlt : i < ls.length := by omega
        obtain ⟨t, ht, ht2⟩ := ev_light3 ls[i]
        cases t with
        | false =>
          refine ⟨false, Ev.step (fun k => by rw [thwartref04_Light.l0]) (ev_if_pos (by omega) ?_), fun h => by cases h⟩
          rw [decide_eq_true (by omega)]
          refine Ev.step (fun k => by rw [thwartref04_Light.j1]) ?_
          refine ev_bt ?_
          refine ev_if_pos (by omega) ?_
          refine ev_if_pos (by omega) ?_
          rw [rdL_at hlt]
          refine Ev.bind ht ?_
          exact ev_bf (Ev.now _)
        | true =>
          obtain ⟨r, h1, h2⟩ := ih (i + 1) (wrap64 (x + (ls[i].length : Int))) (by omega) (by omega) (fun j hjl hji => by
            rcases Nat.lt_succ_iff_lt_or_eq.1 hji with h4 | rfl
            · exact hj j hjl h4
            · exact ht2 rfl)
          refine ⟨r, Ev.step (fun k => by rw [thwartref04_Light.l0]) (ev_if_pos (by omega) ?_), h2⟩
          rw [decide_eq_true (by omega)]
          refine Ev.step (fun k => by rw [thwartref04_Light.j1]) ?_
          refine ev_bt ?_
          refine ev_if_pos (by omega) ?_
          refine ev_if_pos (by omega) ?_
          rw [rdL_at hlt]
          refine Ev.bind ht ?_
          refine ev_bt ?_
          rw [wrap64_in (n := (i : Int) + 1) (by omega) (by omega)]
          exact h1
      · obtain ⟨r, h1, h2⟩ := fin i x i (Or.inr ⟨by omega, by omega⟩) hj
        refine ⟨r, Ev.step (fun k => by rw [thwartref04_Light.l0]) (ev_if_pos (by omega) ?_), h2⟩
        rw [decide_eq_false (by omega)]
        exact h1
  obtain ⟨r, h1, h2⟩ := this ls.length 0 0 (by omega) (by omega) (fun j _ hj => by omega)
  exact ⟨r, Ev.bind h1 (Ev.now _), h2⟩
/-! ### Newest, Live, Merge -/
def Big (ls : List (List SR)) : Prop := ls.length ≤ 1000 ∧ ls.flatten.length ≤ 100000 ∧ ∀ x ∈ ls.flatten, x.f1.size ≤ 10000
theorem ev_flat (ls : List (List SR)) (h : Big ls) : Ev (fun k => api_Rec_21.f k ls) ls.flatten := by
  obtain ⟨hn, hf, _⟩ := h
  have : ∀ d i : Nat, i + d = ls.length → Ev (fun k => api_Rec_21.l0 k (ls.take i).flatten ls (ls.length : Int) (i : Int)) ls.flatten := by
    intro d
    induction d with
    | zero =>
      intro i hi
      refine Ev.step (fun k => by rw [api_Rec_21.l0]) ?_
      refine ev_if_neg (by omega) ?_
      rw [List.take_of_length_le (by omega)]
      exact Ev.now _
    | succ d ih =>
      intro i hi
      have hlt : i < ls.length := by omega
      refine Ev.step (fun k => by rw [api_Rec_21.l0]) ?_
      refine ev_if_pos (by omega) ?_
      refine ev_if_pos (by omega) ?_
      refine ev_if_pos (by omega) ?_
      have e : (ls.take (i + 1)).flatten = (ls.take i).flatten ++ ls[i] := by
        rw [List.take_succ_eq_append_getElem hlt, List.flatten_append]
        simp
      have hl : (ls.take i).flatten.length + ls[i].length ≤ 100000 := by
        rw [← List.length_append, ← e]
        refine Nat.le_trans ?_ hf
        conv => rhs; rw [← List.take_append_drop (i + 1) ls, List.flatten_append, List.length_append]
        omega
      rw [rdL_at hlt]
      refine ev_if_pos (by omega) ?_
      rw [wrap64_in (by omega) (by omega), ← e]
      exact ih (i + 1) (by omega)
  exact this ls.length 0 (by omega)
theorem ev_newest (ls : List (List SR)) (h : Big ls) : Ev (fun k => merge_Newest.f k ls) (newestL keyS numS ls.flatten) := by
  refine Ev.bind (ev_flat ls h) ?_
  exact ev_if_pos ⟨by have := h.2.1; omega, fun x hx => by have := h.2.2 x hx; omega⟩ (Ev.now _)
def notGone (x : SR) : Bool := !x.f3
theorem ev_live (ls : List (List SR)) (h : Big ls) : Ev (fun k => merge_Live.f k ls) ((newestL keyS numS ls.flatten).filter notGone) := Ev.bind (ev_newest ls h) (Ev.now _)
theorem ev_merge (ls : List (List SR)) (h : Big ls) (b : Bool) : Ev (fun k => merge_Merge.f k b ls) (if b = true then newestL keyS numS ls.flatten else (newestL keyS numS ls.flatten).filter notGone) := by
  cases b with
  | true => exact ev_bt (Ev.bind (ev_newest ls h) (Ev.now _))
  | false => exact ev_bf (Ev.bind (ev_live ls h) (Ev.now _))
theorem flat_len (c : Nat) : ∀ ls : List (List SR), (∀ l ∈ ls, l.length ≤ c) → ls.flatten.length ≤ c * ls.length
  | [], _ => by simp
  | l :: ls, h => by
    have h1 := h l (by simp)
    have h2 := flat_len c ls (fun x hx => h x (by simp [hx]))
    rw [List.flatten_cons, List.length_append, List.length_cons, Nat.mul_add]
    omega
theorem OkLs.flat {ls : List (List SR)} (h : OkLs ls) : ls.flatten.length ≤ 800 ∧ ∀ x ∈ ls.flatten, x.f1.size ≤ 10000 := by
  refine ⟨Nat.le_trans (flat_len 40 ls (fun l hl => (h.2 l hl).1)) (by have := h.1; omega), fun x hx => ?_⟩
  obtain ⟨l, hl, hx⟩ := List.mem_flatten.1 hx
  exact (h.2 l hl).2 x hx
theorem newest_len (l : List SR) : (newestL keyS numS l).length ≤ l.length := by
  rw [← (tab_ok keyS numS l).perm.length_eq, List.length_map]
  exact tabM_length keyS numS l
theorem newest_mem (l : List SR) : ∀ x ∈ newestL keyS numS l, x ∈ l := mem_newestL keyS numS l
/-- Rows of which each is light, and one more that lies in light ones. -/
theorem big_two {ls ms : List (List SR)} {m : List SR} (h1 : OkLs ls) (h2 : OkLs ms) (hm : m.length ≤ ls.flatten.length) (hx : ∀ x ∈ m, x ∈ ls.flatten) : Big ([m] ++ ms) ∧ Big (ls ++ ms) ∧ Big ls := by
  obtain ⟨a1, a2⟩ := h1.flat
  obtain ⟨b1, b2⟩ := h2.flat
  have := h1.1
  have := h2.1
  refine ⟨⟨by simp; omega, ?_, ?_⟩, ⟨by simp; omega, ?_, ?_⟩, ⟨by omega, by omega, a2⟩⟩
  · rw [List.flatten_append, List.length_append, List.flatten_singleton]; omega
  · intro x hx'
    rw [List.flatten_append, List.flatten_singleton] at hx'
    rcases List.mem_append.1 hx' with h | h
    · exact a2 x (hx x h)
    · exact b2 x h
  · rw [List.flatten_append, List.length_append]; omega
  · intro x hx'
    rw [List.flatten_append] at hx'
    rcases List.mem_append.1 hx' with h | h
    · exact a2 x h
    · exact b2 x h
end Go.Proofs.Ytlfhnpecfkhcpaa.Thw
