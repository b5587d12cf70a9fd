/- Layer 6: Append. -/
import Derived.Test.YtpmnljdhjgjgfaaEv06d
namespace Go.Proofs.Ytpmnljdhjgjgfaa.Thw
open Go Go.RowKit Go.Proofs.YtpmnljdhjgjgfaaW.PrintWords Go.Proofs.YtpmnljdhjgjgfaaW.PrintLast Go.Proofs.YtpmnljdhjgjgfaaW.PrintMore
attribute [local go_sem] max2_int min2_int max_two min_two
set_option linter.unusedVariables false
set_option linter.unusedSimpArgs false
def Dsk.fileOf (st : Dsk) (name : ByteArray) : DFile := match look st.m name with | none => ⟨⟨#[]⟩, 0⟩ | some f => f
def Dsk.append (st : Dsk) (name b : ByteArray) : Dsk × Int :=
  if right name = false then (st, 1) else if st.burn.2 = 8 then (st.burn.1, 8) else if st.burn.1.left < (b.size : Int) then (st.burn.1, 6)
  else ({ st.burn.1 with m := put st.burn.1.m name ⟨(st.burn.1.fileOf name).b ++ b, (st.burn.1.fileOf name).sure⟩ }, 0)
theorem burn_room (st : Dsk) : st.burn.1.room = st.room := by unfold Dsk.burn; split <;> rfl
theorem burn_m (st : Dsk) : st.burn.1.m = st.m := by unfold Dsk.burn; split <;> rfl
set_option maxHeartbeats 6400000 in
set_option maxRecDepth 100000 in
theorem disk_Append.calls (w : World) (A : Nat → Prop) (d : Nat) (st : Dsk) (h : DskAt w A d st) (name : ByteArray) (hn : name.size ≤ 9223372036854775807) (b : ByteArray) (hr : -9223372036854775808 ≤ st.room ∧ st.room ≤ 9223372036854775807) (hsz : (st.fileOf name).b.size + b.size ≤ 9223372036854775807) :
    Calls Try.prog 8 #[.pointer (some ⟨d, 0, none⟩), .string name, .string b] w fun e w' => e = .returned (.int .i64 (st.append name b).2) ∧ DskAt w' (gr A w) d (st.append name b).1 ∧ Frm A w w' := by
  have H0 := Aside0.mk h.bound
  have HN := Aside0.mk hn
  have HR := Aside0.mk hr
  have HZ := Aside0.mk hsz
  have h1 := disk_right.calls name w (right name) rfl
  have E0 := Aside0.mk (show st.append name b = if right name = false then (st, 1) else if st.burn.2 = 8 then (st.burn.1, 8) else if st.burn.1.left < (b.size : Int) then (st.burn.1, 6)
    else ({ st.burn.1 with m := put st.burn.1.m name ⟨(st.burn.1.fileOf name).b ++ b, (st.burn.1.fileOf name).sure⟩ }, 0) from rfl)
  generalize right name = rg at h1 E0
  have HRT := Aside0.mk h1
  clear h hn hr h1 hsz
  go_enter Try.func8, Try.ntmps8
  go_wp2_with fail
  refine HRT.out.mono ?_
  rintro e w0 ⟨rfl, rfl⟩
  cases rg with
  | false =>
    have E1 := Aside0.mk (show st.append name b = (st, 1) by rw [E0.out, if_pos rfl])
    go_wp2_with fail
    go_ret
    rw [E1.out]
    exact ⟨rfl, H0.out.mono (fun k _ hk => Or.inl hk.1), Frm.refl _ _⟩
  | true =>
    go_wp2_with fail
    refine (disk_burn.calls w0 _ d st H0.out).mono ?_
    rintro e w1 ⟨rfl, h1, f1⟩
    have H1 := Aside0.mk h1
    have F1 := Aside0.mk f1
    clear h1 f1
    rcases burn_code st with hc | hc
    · rw [hc]
      have hc8 : ¬ st.burn.2 = 8 := by rw [hc]; decide
      have E1 := Aside0.mk (show st.append name b = if st.burn.1.left < (b.size : Int) then (st.burn.1, 6) else ({ st.burn.1 with m := put st.burn.1.m name ⟨(st.burn.1.fileOf name).b ++ b, (st.burn.1.fileOf name).sure⟩ }, 0) by rw [E0.out, if_neg (by decide), if_neg hc8])
      clear hc hc8
      go_wp2_with fail
      refine (disk_Left.calls w1 _ d st.burn.1 H1.out (by rw [burn_room]; exact HR.out)).mono ?_
      rintro e w2 ⟨rfl, b2⟩
      have H2 := Aside0.mk (H1.out.below b2)
      have F2 := Aside0.mk (F1.out.andThen (Frm.of_new (S := None') b2) (fun i hi => hi.elim))
      clear b2
      by_cases hlt : st.burn.1.left < (b.size : Int)
      · have E2 := Aside0.mk (show st.append name b = (st.burn.1, 6) by rw [E1.out, if_pos hlt])
        have hd : decide (st.burn.1.left < (b.size : Int)) = true := decide_eq_true hlt
        clear hlt
        go_wp2_with fail
        go_ret
        rw [E2.out]
        exact ⟨rfl, H2.out.mono (fun k _ hk => Or.inl hk.1), F2.out.mono fun k _ hk => hk.1⟩
      · have E2 := Aside0.mk (show st.append name b = ({ st.burn.1 with m := put st.burn.1.m name ⟨(st.burn.1.fileOf name).b ++ b, (st.burn.1.fileOf name).sure⟩ }, 0) by rw [E1.out, if_neg hlt])
        have hd : decide (st.burn.1.left < (b.size : Int)) = false := decide_eq_false hlt
        clear hlt E0 E1 H1 HRT
        obtain ⟨s2, hs2⟩ : ∃ s2, s2 = st.burn.1 := ⟨_, rfl⟩
        rw [← hs2] at H2 E2 hd ⊢
        have HS2 := Aside0.mk hs2
        clear hs2
        obtain ⟨mb, a1, a2, hb, hm⟩ := H2.out
        obtain ⟨c0, c1, c2, c3, fr⟩ := cells4 hb
        have HB := Aside0.mk hb
        have HM := Aside0.mk hm
        obtain ⟨f, hfo⟩ : ∃ f, s2.fileOf name = f := ⟨_, rfl⟩
        have hlk : (Instr.lookup 58 (.map (some mb)) (.string name) false).run Try.prog w2 = .ok (.agg #[.string f.b, .int .i64 f.sure]) w2 := by
          cases hl : look s2.m name with
          | none =>
            have : f = ⟨⟨#[]⟩, 0⟩ := by rw [← hfo]; simp [Dsk.fileOf, hl]
            rw [this]
            exact MapOf.at_absent strInj strKeyed hm Try.underlying58 (strOk HN.out) (zeroFile w2) hl
          | some g =>
            have : f = g := by rw [← hfo]; simp [Dsk.fileOf, hl]
            rw [this]
            exact MapOf.at_found strInj strKeyed hm Try.underlying58 (strOk HN.out) (zeroFile w2) hl
        have hfs : f.b.size + b.size ≤ 9223372036854775807 := by
          have e : s2.fileOf name = st.fileOf name := by unfold Dsk.fileOf; rw [HS2.out, burn_m]
          rw [← hfo, e]; exact HZ.out
        rw [hfo] at E2
        clear hb hm hfo
        go_wp2_with fail
        refine region_tail 6 (by kernel_rfl) (by kernel_rfl) (fun W => W.heap[w2.heap.size]? = some (.cells #[.string (f.b ++ b), .int .i64 f.sure] 64) ∧ W.heap[d]? = some (.cells #[.int .i64 s2.room, .map (some mb), .int .i64 s2.fuse, .bool s2.down] 60) ∧ MapOf Try.prog 9 Value.string fileV W mb s2.m ∧ Frm (fun k => A k ∧ k < w0.heap.size) w0 W)
          ⟨blk_drew (blk_new _ _), blk_drew (blk_alloc HB.out _), (HM.out.alloc _).drew, (F2.out.alloc _).drew⟩ ?_
        clear c0 c1 c2 c3 fr hlk hd hfs
        rintro w3 ⟨z3, b3, m3, f3⟩
        obtain ⟨c0, c1, c2, c3, fr⟩ := cells4 b3
        obtain ⟨d0, d1, dr⟩ := cells2 z3
        have B3 := Aside0.mk b3
        have M3 := Aside0.mk m3
        have F3 := Aside0.mk f3
        clear z3 b3 m3 f3
        simp only [List.take_succ_cons, List.take_zero, List.drop_succ_cons, List.drop_zero]
        repeat still_step
        refine wpStill_nil ?_
        refine wpList_mapUpdate_of strInj strKeyed w3 rfl _ _ _ 58 64 rfl Try.underlying58 mb _ rfl M3.out name rfl (strOk HN.out) (⟨f.b ++ b, f.sure⟩ : DFile) rfl ?_
        rintro w4 m4 f4 z4
        have M4 := Aside0.mk m4
        have F4 := Aside0.mk f4
        clear m4 f4 z4 c0 c1 c2 c3 fr d0 d1 dr
        go_wp2_with fail
        go_ret
        have hne := MapOf.ne M3.out B3.out
        rw [E2.out]
        exact ⟨rfl, ⟨mb, Or.inl a1.1, Or.inl a2.1, F4.out.keeps B3.out hne, M4.out⟩, (F3.out.andThen F4.out (fun i e => by rw [e]; exact Or.inl a2)).mono fun k _ hk => hk.1⟩
    · rw [hc]
      have E1 := Aside0.mk (show st.append name b = (st.burn.1, 8) by rw [E0.out, if_neg (by decide), if_pos hc])
      clear hc
      go_wp2_with fail
      go_ret
      rw [E1.out]
      exact ⟨rfl, H1.out.mono (fun k _ hk => Or.inl hk.1), F1.out.mono fun k _ hk => hk.1⟩
end Go.Proofs.Ytpmnljdhjgjgfaa.Thw
