/- Layer 14: the statement UploadWays. -/
import Derived.Test.YtcahpaoeailajaaPrint10
import Derived.Test.YtcahpaoeailajaaEvA
namespace Go.Proofs.Ytcahpaoeailajaa.Thw
open Go Go.RowKit Go.Proofs.Ytcahpaoeailajaa.Print Go.Proofs.YtcahpaoeailajaaW.PrintWords Go.Proofs.YtcahpaoeailajaaW.PrintLast Go.Proofs.YtcahpaoeailajaaW.PrintMore
set_option linter.unusedVariables false
set_option linter.unusedSimpArgs false
def dueW (s nx now : Int) : Bool := decide ((s = 0 ∨ s = 1) ∧ nx ≤ now)
theorem due_w (s t nx now : Int) : upload_Due.f s t nx now = some (dueW s nx now) := by
  unfold upload_Due.f upload_Up_goes.f dueW
  by_cases h0 : s = 0
  · subst h0; simp
  · by_cases h1 : s = 1
    · subst h1; simp
    · rw [if_neg h0]; simp [h0, h1]
theorem rest_w (n : Int) : ∃ r, upload_rest.f n = some r := by
  unfold upload_rest.f
  by_cases h : n < 1
  · exact ⟨_, if_pos h⟩
  · rw [if_neg h]
    have : 0 ≤ mn n 6 := by unfold mn; split <;> omega
    exact ⟨_, if_pos this⟩
theorem ev_awake14w : Ev (fun k => thwartlaw14_awake.f k) true := Ev.of (fun k => thwartlaw14_awake.mono k) (k := 12) (by decide +kernel)
theorem eq_self3 (a b c : Int) : (!(a == a) || (!(b == b) || (!(c == c)))) = false := by simp
theorem ev_ways (ns : List Int) (ws : List Bool) (hn : ns.length ≤ 100) (hw : ns.length ≤ ws.length) : ∀ d i : Nat, i + d = ns.length → ∀ a b c : Int,
    Ev (fun k => thwartlaw14_UploadWays.l0 k ns ws true (i : Int) a b c) true := by
  intro d
  induction d with
  | zero =>
    intro i hi a b c
    refine Ev.step (fun k => by rw [thwartlaw14_UploadWays.l0]) ?_
    refine ev_if_neg (by omega) ?_
    exact Ev.now _
  | succ d ih =>
    intro i hi a b c
    refine Ev.step (fun k => by rw [thwartlaw14_UploadWays.l0]) ?_
    refine ev_if_pos (by omega) ?_
    refine ev_if_pos (by omega) ?_
    refine ev_if_pos (by omega) ?_
    have hx : wrap64 ((i : Int) + 1) = ((i + 1 : Nat) : Int) := by rw [wrap64_in (by omega) (by omega)]; omega
    simp only [hx]
    generalize rd ns (i : Int) = now
    generalize rdOf false ws (i : Int) = well
    unfold upload_Step.f
    rw [due_w]
    cases hd : dueW a c now with
    | false =>
      refine ev_bind_now rfl ?_
      refine ev_bind_now rfl ?_
      refine ev_if_neg (by decide) ?_
      refine ev_if_neg (by rw [Bool.not_eq_true]; exact eq_self3 _ _ _) ?_
      exact ih (i + 1) (by omega) a b c
    | true =>
      cases well with
      | true =>
        refine ev_bind_now rfl ?_
        refine ev_bind_now rfl ?_
        refine ev_if_pos rfl ?_
        refine ev_if_pos rfl ?_
        refine ev_if_pos rfl ?_
        refine ev_if_pos rfl ?_
        refine ev_if_pos rfl ?_
        exact ih (i + 1) (by omega) _ _ _
      | false =>
        obtain ⟨r, hr⟩ := rest_w (wrap64 (b + 1))
        refine ev_bind_now (a := (a, wrap64 (b + 1), wrap64 (now + r))) (by rw [Option.bind_some, if_pos rfl, if_neg (by decide), hr, Option.bind_some]) ?_
        refine ev_bind_now rfl ?_
        refine ev_if_pos rfl ?_
        refine ev_if_neg (by decide) ?_
        refine ev_if_pos rfl ?_
        refine ev_if_pos rfl ?_
        exact ih (i + 1) (by omega) _ _ _
theorem pureUploadWays : thwartlaw14_UploadWays.Pure := by
  intro u ns ws h1 h2 h3 h4 h5
  apply Ev.rounds
  unfold thwartlaw14_UploadWays.f
  refine Ev.bind ev_awake14w ?_
  have stop : Ev (fun k => thwartlaw14_UploadWays.j0 k ns ws true true u.f0 u.f1 u.f2) true :=
    Ev.step (fun k => by rw [thwartlaw14_UploadWays.j0]) (ev_if_pos rfl (Ev.now _))
  by_cases hn : (ns.length : Int) > 100
  · exact ev_if_pos hn stop
  refine ev_if_neg hn ?_
  by_cases hw : (ws.length : Int) < (ns.length : Int)
  · rw [decide_eq_true hw]; exact stop
  rw [decide_eq_false hw]
  refine Ev.step (fun k => by rw [thwartlaw14_UploadWays.j0]) ?_
  refine ev_if_neg (by decide) ?_
  exact ev_ways ns ws (by omega) (by omega) ns.length 0 (by omega) _ _ _
end Go.Proofs.Ytcahpaoeailajaa.Thw
