/- Layer 6: the disk's calls that change it. -/
import Derived.Test.YtpmnljdhjgjgfaaEv06
namespace Go.Proofs.Ytpmnljdhjgjgfaa.Thw
open Go Go.RowKit Go.Proofs.YtpmnljdhjgjgfaaW.PrintWords Go.Proofs.YtpmnljdhjgjgfaaW.PrintLast Go.Proofs.YtpmnljdhjgjgfaaW.PrintMore
attribute [local go_sem] max2_int min2_int max_two min_two
set_option linter.unusedVariables false
set_option linter.unusedSimpArgs false
def Dsk.change (st : Dsk) (name : ByteArray) (may : Bool) (upd : Dsk → DFile → Dsk) : Dsk × Int := match look st.m name with
  | none => (st, 5)
  | some f => if may = true then (if st.burn.2 = 0 then (upd st.burn.1 f, 0) else (st.burn.1, st.burn.2)) else (st, 1)
theorem burn_code (st : Dsk) : st.burn.2 = 0 ∨ st.burn.2 = 8 := by
  unfold Dsk.burn
  split
  · exact Or.inr rfl
  · exact Or.inl rfl
set_option maxHeartbeats 3200000 in
set_option maxRecDepth 100000 in
theorem disk_change.calls (w : World) (A : Nat → Prop) (d : Nat) (st : Dsk) (h : DskAt w A d st) (hA : ∀ k, A k → k < w.heap.size) (name : ByteArray) (hn : name.size ≤ 9223372036854775807) (may : Bool) (F : Nat) (fn : Func) (hf : Try.prog.funcs[F]? = some fn) (hname : (fn.name == "runtime.NumGoroutine") = false) (hbody : fn.body.isSome = true) (captured : Array Value) (upd : Dsk → DFile → Dsk)
    (hdo : ∀ W f, look st.m name = some f → may = true → DskAt W A d st.burn.1 → Frm A w W → Calls Try.prog F (#[fileV f] ++ captured) W fun e w' => e = .returned (.tuple #[]) ∧ DskAt w' (gr A W) d (upd st.burn.1 f) ∧ Frm A W w') :
    Calls Try.prog 35 #[.pointer (some ⟨d, 0, none⟩), .string name, .bool may, .func (.func F) #[] captured] w fun e w' => e = .returned (.int .i64 (st.change name may upd).2) ∧ DskAt w' (gr A w) d (st.change name may upd).1 ∧ Frm A w w' := by
  have h0 := h
  obtain ⟨mb, a1, a2, hb, hm⟩ := h
  have H0 := Aside0.mk h0
  obtain ⟨c0, c1, c2, c3, fr⟩ := cells4 hb
  cases hl : look st.m name with
  | none =>
    have hlk := MapOf.absent strInj strKeyed hm Try.underlying58 (strOk hn) (zeroFile w) hl
    have e1 := Aside0.mk (show st.change name may upd = (st, 5) by simp [Dsk.change, hl])
    clear hb hm hn hl h0 hf hname hbody hdo
    simp only [fileV] at hlk
    go_enter Try.func35, Try.ntmps35
    go_wp2_with fail
    go_ret
    rw [e1.out]
    exact ⟨rfl, (H0.out.alloc _).mono (fun _ _ hk => Or.inl hk), (Frm.refl _ _).alloc _⟩
  | some f =>
    have hlk := MapOf.found strInj strKeyed hm Try.underlying58 (strOk hn) (zeroFile w) hl
    cases may with
    | false =>
      have e1 := Aside0.mk (show st.change name false upd = (st, 1) by simp [Dsk.change, hl])
      clear hb hm hn hl h0 hf hname hbody hdo
      simp only [fileV] at hlk
      go_enter Try.func35, Try.ntmps35
      go_wp2_with fail
      go_ret
      rw [e1.out]
      exact ⟨rfl, (H0.out.alloc _).mono (fun _ _ hk => Or.inl hk), (Frm.refl _ _).alloc _⟩
    | true =>
      have HD := Aside0.mk hdo
      have HE := Aside0.mk (fun args => enters_ hf hname hbody args)
      have HL := Aside0.mk hl
      have e0 := Aside0.mk (show st.change name true upd = if st.burn.2 = 0 then (upd st.burn.1 f, 0) else (st.burn.1, st.burn.2) by simp [Dsk.change, hl])
      clear hb hm hn hl h0 hf hname hbody hdo
      simp only [fileV] at hlk
      go_enter Try.func35, Try.ntmps35
      go_wp2_with fail
      refine rebase (fun W => DskAt W A d st ∧ Frm A w W ∧ (W.heap[w.heap.size]? = some (.cells #[.string f.b, .int .i64 f.sure] 64))) ⟨H0.out.alloc _, (Frm.refl _ _).alloc _, blk_new _ _⟩ ?_
      rintro w1 ⟨h1, f1, b1⟩
      have b0 : ¬ A w.heap.size := fun x => Nat.lt_irrefl _ (hA _ x)
      refine (disk_burn.calls w1 A d st h1).mono ?_
      rintro e w2 ⟨rfl, h2, f2⟩
      have b2 := f2.keeps b1 b0
      obtain ⟨d0, d1, dr⟩ := cells2 b2
      have H2 := Aside0.mk h2
      have F2 := Aside0.mk (f1.andThen f2 (fun i hi => Or.inl hi))
      clear h1 f1 b1 h2 f2 b2 c0 c1 c2 c3 fr hlk hA
      rcases burn_code st with hc | hc
      · have e1 := Aside0.mk (show st.change name true upd = (upd st.burn.1 f, 0) by rw [e0.out, if_pos hc])
        rw [hc]
        clear hc e0
        go_wp2_with fail
        rw [HE.out, Oper.upon_enter]
        refine (HD.out _ f HL.out (by trivial) H2.out F2.out).mono ?_
        rintro e w3 ⟨rfl, h3, f3⟩
        have H3 := Aside0.mk h3
        have F3 := Aside0.mk f3
        clear h3 f3 d0 d1 dr
        go_wp2_with fail
        go_ret
        rw [e1.out]
        exact ⟨rfl, H3.out.mono fun k _ hk => gr_mono F2.out.size k hk, F2.out.andThen F3.out (fun i hi => Or.inl hi)⟩
      · have e1 := Aside0.mk (show st.change name true upd = (st.burn.1, 8) by rw [e0.out, if_neg (by rw [hc]; decide), hc])
        rw [hc]
        clear hc e0
        go_wp2_with fail
        go_ret
        rw [e1.out]
        exact ⟨rfl, H2.out.mono fun k _ hk => Or.inl hk, F2.out⟩
end Go.Proofs.Ytpmnljdhjgjgfaa.Thw
