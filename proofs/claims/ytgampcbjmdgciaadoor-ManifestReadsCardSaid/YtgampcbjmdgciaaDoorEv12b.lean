/- Layer 12: numbers taken off bytes, or a panic. -/
import Derived.Test.YtgampcbjmdgciaaDoorHead
import Derived.Recover
import Derived.Test.YtgampcbjmdgciaaDoorPlain12b
import Derived.Test.YtgampcbjmdgciaaDoorEv01I
import Derived.Test.YtgampcbjmdgciaaDoorEv02
import Derived.Test.YtgampcbjmdgciaaDoorPrint2
namespace Go.Proofs.YtgampcbjmdgciaaDoor.Thw
open Go Go.RowKit Go.Proofs.YtgampcbjmdgciaaDoor.Print Go.Proofs.YtgampcbjmdgciaaDoorW.PrintWords Go.Proofs.YtgampcbjmdgciaaDoorW.PrintLast Go.Proofs.YtgampcbjmdgciaaDoorW.PrintMore
set_option linter.unusedVariables false
set_option linter.unusedSimpArgs false
/-- What a fault of form panics with. -/
abbrev formP : Value := .iface 26 (.int .i64 2)
abbrev formE : Ending := .panicked [{ v := formP, recovered := false }]
def MustPost (b : Bool) (w : World) (e : Ending) (w' : World) : Prop := w' = w ∧ ((b = true ∧ e = .returned (.tuple #[])) ∨ (b = false ∧ e = formE))
theorem must_calls (b : Bool) (w : World) : Calls Tryd.prog 31 #[.bool b] w (MustPost b w) := by
  go_enter Tryd.func31, Tryd.ntmps31
  cases b with
  | true =>
    go_wp2_with fail
    go_end0
    exact ⟨rfl, Or.inl ⟨rfl, rfl⟩⟩
  | false =>
    go_wp2_with fail
    exact ⟨rfl, rfl, Or.inr ⟨rfl, rfl⟩⟩
/-- A number taken, or a panic. -/
def TakePost (r tm : Nat) (b : Bs) (w : World) (e : Ending) (w' : World) : Prop :=
  Frm (fun k => k = r) w w' ∧ ((∃ n s, tk tm b = some (n, s) ∧ e = .returned (.int .u64 (n : Nat)) ∧ n ≤ tm ∧ s.length ≤ b.length ∧ w'.heap[r]? = some (.cells #[.string (B s)] 61)) ∨
    (tk tm b = none ∧ e = formE ∧ w'.heap[r]? = some (.cells #[.string (B b)] 61)))
theorem cells1' {w : World} {s : Nat} {v0 : Value} {t : TypeId} (h : w.heap[s]? = some (.cells #[v0] t)) : w.cell? ⟨s, 0, none⟩ = some v0 ∧ w.frozen? ⟨s, 0, none⟩ = false := by
  refine ⟨?_, ?_⟩ <;> simp [World.cell?, World.frozen?, h]
set_option maxHeartbeats 1600000 in
theorem take_calls (r tm : Nat) (hto : tm < 18446744073709551616) (b : Bs) (hb : b.length ≤ 1000000) (w : World) (h : w.heap[r]? = some (.cells #[.string (B b)] 61)) :
    Calls Tryd.prog 30 #[.pointer (some ⟨r, 0, none⟩), .int .u64 (tm : Nat)] w (TakePost r tm b w) := by
  have H := Aside0.mk h
  have HL := Aside0.mk (lt_of_block h)
  obtain ⟨c0, f0⟩ := cells1' h
  clear h
  obtain ⟨q, hq⟩ := Ev.rounds (ev_Take (B b) (by show b.toArray.size ≤ _; simp; omega))
  rw [L_B] at hq
  have HQ := Aside0.mk hq
  clear hq
  go_enter Tryd.func30, Tryd.ntmps30
  go_wp2_with fail
  refine (varint_Take.calls q (B b) _ _ _ _ HQ.out).mono ?_
  rintro e w1 ⟨rfl, b1⟩
  have hfrm : Frm (fun k => k = r) w w1 := Frm.of_new b1
  have H1 := Aside0.mk (blk_below H.out b1)
  have F1 := Aside0.mk hfrm
  have HT := Aside0.mk (takeS_told b)
  have HTK := Aside0.mk (show tk tm b = if (takeS b).2.2 = 0 ∧ (takeS b).1 ≤ tm then some ((takeS b).1, (takeS b).2.1) else none from rfl)
  clear b1 hfrm c0 f0 HQ
  obtain ⟨c0, f0⟩ := cells1' H1.out
  generalize takeS b = t at HT HTK ⊢
  obtain ⟨n, s, er⟩ := t
  simp only [TK] at HT HTK ⊢
  cases hE : (er == 0) with
  | true =>
    have hE' := beq_iff_eq.1 hE
    subst hE'
    by_cases hn : n ≤ tm
    · have dn : decide ((n : Int) ≤ (tm : Int)) = true := decide_eq_true (by omega)
      have HR := Aside0.mk (show tk tm b = some (n, s) by rw [HTK.out, if_pos ⟨rfl, hn⟩])
      have HSL := Aside0.mk (show s.length ≤ b.length by
        rcases HT.out with h | h | h
        · have := h.2.2.2.2; show s.length ≤ b.length; exact Nat.le_of_lt this
        · injection h with _ h; injection h with h _; rw [h]; exact Nat.zero_le _
        · injection h with _ h; injection h with h _; rw [h]; exact Nat.zero_le _)
      go_wp2_with fail
      refine (must_calls true _).mono ?_
      rintro e w2 ⟨rfl, ⟨_, rfl⟩ | ⟨h, _⟩⟩
      · go_wp2_with fail
        go_ret
        refine ⟨F1.out.setCell (p := ⟨r, 0, none⟩) (Or.inl rfl) _, Or.inl ⟨n, s, HR.out, rfl, hn, HSL.out, ?_⟩⟩
        simpa using blk_set H1.out 0 (.string (B s))
      · cases h
    · have dn : decide ((n : Int) ≤ (tm : Int)) = false := decide_eq_false (by omega)
      have HR := Aside0.mk (show tk tm b = none by rw [HTK.out, if_neg (fun h => hn h.2)])
      go_wp2_with fail
      refine (must_calls false _).mono ?_
      rintro e w2 ⟨rfl, ⟨h, _⟩ | ⟨_, rfl⟩⟩
      · cases h
      · exact ⟨rfl, F1.out, Or.inr ⟨HR.out, rfl, H1.out⟩⟩
  | false =>
    have HR := Aside0.mk (show tk tm b = none by rw [HTK.out, if_neg (fun h => by have h0 : er = 0 := h.1; rw [h0] at hE; cases hE)])
    go_wp2_with fail
    refine (must_calls false _).mono ?_
    rintro e w2 ⟨rfl, ⟨h, _⟩ | ⟨_, rfl⟩⟩
    · cases h
    · exact ⟨rfl, F1.out, Or.inr ⟨HR.out, rfl, H1.out⟩⟩
end Go.Proofs.YtgampcbjmdgciaaDoor.Thw
