/- Layer 6: Crash. -/
import Derived.Test.YtpmnljdhjgjgfaaEv06g
namespace Go.Proofs.Ytpmnljdhjgjgfaa.Thw
open Go Go.RowKit Go.Proofs.YtpmnljdhjgjgfaaW.PrintWords Go.Proofs.YtpmnljdhjgjgfaaW.PrintLast Go.Proofs.YtpmnljdhjgjgfaaW.PrintMore
attribute [local go_sem] max2_int min2_int max_two min_two
set_option linter.unusedVariables false
set_option linter.unusedSimpArgs false
theorem R_frm {α : Type} {d : Kd α} {e : Nat} {w w1 : World} {base : Nat} {ok S : Nat → Prop} {v : Value} {xs : List α} (h : d.R e w base ok v xs) (hf : Frm S w w1) (hn : ∀ k, base ≤ k → ¬ S k) : d.R e w1 base ok v xs :=
  Kd.R_mono (Kd.R_step (Kd.R_bound h) (fun k ho hk => hf.block k hk (hn k ho.2.1))) (fun _ hk => hk.1)
theorem C_int {w : World} {A : Option Addr} {xs : List Int} (h : (Kd.int .i64).C w A xs.length xs) {k : Nat} (hk : k < xs.length) : ∃ ad, A = some ad ∧ w.cell? (ad.add k) = some (.int .i64 xs[k]) := by
  obtain ⟨ad, c, e, hl, hK, hc⟩ := ReadsRow.get_ h (0 : Int) (k : Int) (by omega) (by omega)
  have hK' : c = [Value.int .i64 (xs.getD k 0)] := hK
  subst hK'
  have := hc 0 _ rfl
  refine ⟨ad, e, ?_⟩
  simpa [Kd.int, Kd.scalar, List.getD_eq_getElem?_getD, List.getElem?_eq_getElem hk] using this
theorem C_str {w : World} {A : Option Addr} {xs : List ByteArray} (h : Kd.string.C w A xs.length xs) {k : Nat} (hk : k < xs.length) : ∃ ad, A = some ad ∧ w.cell? (ad.add k) = some (.string xs[k]) := by
  obtain ⟨ad, c, e, hl, hK, hc⟩ := ReadsRow.get_ h (⟨#[]⟩ : ByteArray) (k : Int) (by omega) (by omega)
  have hK' : c = [Value.string (xs.getD k ⟨#[]⟩)] := hK
  subst hK'
  have := hc 0 _ rfl
  refine ⟨ad, e, ?_⟩
  simpa [Kd.string, Kd.scalar, List.getD_eq_getElem?_getD, List.getElem?_eq_getElem hk] using this
abbrev Fls := List (ByteArray × DFile)
def GoodF (f : DFile) : Prop := 0 ≤ f.sure ∧ f.sure ≤ (f.b.size : Int) ∧ f.b.size ≤ 9223372036854775807
def GoodM (m : Fls) : Prop := ∀ p ∈ m, GoodF p.2
def fileIn (m : Fls) (name : ByteArray) : DFile := (look m name).getD ⟨⟨#[]⟩, 0⟩
def crashN (kept : List Int) (k : Nat) (f : DFile) : Int := if k < kept.length then mn (mx (kept.getD k 0) 0) ((f.b.size : Int) - f.sure) else 0
def crashF (kept : List Int) (k : Nat) (f : DFile) : DFile := ⟨f.b.extract 0 (f.sure + crashN kept k f).toNat, f.sure + crashN kept k f⟩
def crashM (kept : List Int) (ns : List ByteArray) : Nat → Fls → Fls
  | 0, m => m
  | j + 1, m => put (crashM kept ns j m) (ns.getD j ⟨#[]⟩) (crashF kept j (fileIn (crashM kept ns j m) (ns.getD j ⟨#[]⟩)))
theorem mem_look {m : Fls} {k : ByteArray} {f : DFile} (h : look m k = some f) : ∃ p ∈ m, p.2 = f := by
  unfold look at h
  obtain ⟨p, hp, e⟩ := Option.map_eq_some_iff.1 h
  exact ⟨p, List.mem_of_find?_eq_some hp, e⟩
theorem good_fileIn {m : Fls} (h : GoodM m) (k : ByteArray) : GoodF (fileIn m k) := by
  unfold fileIn
  cases hl : look m k with
  | none => exact ⟨Int.le_refl _, by simp, by simp [ByteArray.size]⟩
  | some f => obtain ⟨p, hp, rfl⟩ := mem_look hl; exact h p hp
theorem good_put {m : Fls} (h : GoodM m) (k : ByteArray) {f : DFile} (hf : GoodF f) : GoodM (put m k f) := by
  intro p hp
  unfold put at hp
  split at hp
  · obtain ⟨q, hq, e⟩ := List.mem_map.1 hp
    split at e
    · subst e; exact hf
    · subst e; exact h q hq
  · rcases List.mem_append.1 hp with hp | hp
    · exact h p hp
    · simp only [List.mem_singleton] at hp; subst hp; exact hf
theorem crashN_range (kept : List Int) (k : Nat) (f : DFile) (h : GoodF f) : 0 ≤ crashN kept k f ∧ crashN kept k f ≤ (f.b.size : Int) - f.sure := by
  obtain ⟨h1, h2, h3⟩ := h
  unfold crashN
  split
  · unfold mn mx
    split <;> split <;> omega
  · omega
theorem good_crashF (kept : List Int) (k : Nat) (f : DFile) (h : GoodF f) : GoodF (crashF kept k f) := by
  have hr := crashN_range kept k f h
  obtain ⟨h1, h2, h3⟩ := h
  have hs : (f.b.extract 0 (f.sure + crashN kept k f).toNat).size = (f.sure + crashN kept k f).toNat := by rw [ByteArray.size_extract]; omega
  refine ⟨?_, ?_, ?_⟩
  · show 0 ≤ f.sure + crashN kept k f; omega
  · show f.sure + crashN kept k f ≤ ((f.b.extract 0 (f.sure + crashN kept k f).toNat).size : Int); rw [hs]; omega
  · show (f.b.extract 0 (f.sure + crashN kept k f).toNat).size ≤ _; rw [hs]; omega
theorem good_crashM (kept : List Int) (ns : List ByteArray) (m : Fls) (h : GoodM m) : ∀ j, GoodM (crashM kept ns j m)
  | 0 => h
  | j + 1 => good_put (good_crashM kept ns m h j) _ (good_crashF _ _ _ (good_fileIn (good_crashM kept ns m h j) _))
def Dsk.crash (st : Dsk) (kept : List Int) : Dsk := { st with m := crashM kept (names st.m) (names st.m).length st.m, down := false, fuse := -1 }
set_option maxHeartbeats 6400000 in
set_option maxRecDepth 100000 in
theorem disk_Crash.calls (w : World) (A : Nat → Prop) (d : Nat) (st : Dsk) (h : DskAt w A d st) (hA : ∀ k, A k → k < w.heap.size) (hlen : st.m.length ≤ 1000000) (hg : GoodM st.m) (hns : ∀ s ∈ names st.m, s.size ≤ 9223372036854775807) (A' : Option Addr) (c' : Nat) (kept : List Int) (hk : ∀ W, Frm A w W → (Kd.int .i64).C W A' kept.length kept) (hc' : kept.length ≤ c') :
    Calls Try.prog 10 #[.pointer (some ⟨d, 0, none⟩), .slice A' kept.length c'] w fun e w' => e = .returned (.tuple #[]) ∧ DskAt w' A d (st.crash kept) ∧ Frm A w w' := by
  have H0 := Aside0.mk h
  have HG := Aside0.mk hg
  have HK := Aside0.mk hk
  have HS := Aside0.mk hns
  have HA := Aside0.mk hA
  have HL := Aside0.mk hlen
  have HN := Aside0.mk (show (names st.m).length = st.m.length by unfold names; rw [sorted_length, List.length_map])
  have HC' := Aside0.mk hc'
  have HKL := Aside0.mk (hk w (Frm.refl _ _)).2.1
  clear h hg hk hns hA hlen hc'
  go_enter Try.func10, Try.ntmps10
  go_wp2_with fail
  refine (disk_List.calls w A d st H0.out HL.out).mono ?_
  rintro e w1 ⟨v, rfl, hR, hB⟩
  obtain ⟨A2, cc, rfl, hcc, hC⟩ := Kd.R_reads hR
  have HR := Aside0.mk hR
  have HB := Aside0.mk hB
  have HD := Aside0.mk (H0.out.below hB)
  obtain ⟨ns, hns⟩ : ∃ ns, names st.m = ns := ⟨_, rfl⟩
  have E0 := Aside0.mk (show st.crash kept = { st with m := crashM kept ns ns.length st.m, down := false, fuse := -1 } by rw [← hns]; rfl)
  rw [hns] at HR HN HS hcc ⊢
  clear hR hB hC hns
  have hle : ns.length ≤ 1000000 := by have := HN.out; have := HL.out; omega
  go_wp2_with fail
  go_loopw [11] (fun v11 wr => ∃ j : Nat, j ≤ ns.length ∧ v11 = .int .i64 j ∧ Aside0 (DskAt wr A d { st with m := crashM kept ns j st.m }) ∧ Aside0 (Kd.string.R 9 wr w.heap.size (fun _ => True) (.slice A2 ns.length cc) ns) ∧ Aside0 (Frm A w wr)) (fun v11 _ => ns.length - (intOf v11).toNat)
  case atStart => exact ⟨0, Nat.zero_le _, rfl, HD, HR, ⟨Frm.of_new HB.out⟩⟩
  case round =>
    obtain ⟨j, hj, rfl, HD, HR, HF⟩ := hrel
    by_cases hjn : j < ns.length
    · have hkl := HKL.out
      obtain ⟨A3, c3, e3, _, hC⟩ := Kd.R_reads HR.out
      simp only [Value.slice.injEq] at e3
      obtain ⟨rfl, _, rfl⟩ := e3
      obtain ⟨ad, rfl, q0⟩ := C_str hC hjn
      obtain ⟨nm, hnm⟩ : ∃ nm, ns[j] = nm := ⟨_, rfl⟩
      have hnk : nm.size ≤ 9223372036854775807 := by rw [← hnm]; exact HS.out _ (List.getElem_mem _)
      rw [hnm] at q0
      have hgd : ns.getD j ⟨#[]⟩ = nm := by rw [List.getD_eq_getElem?_getD, List.getElem?_eq_getElem hjn, ← hnm]; rfl
      obtain ⟨f, hf⟩ : ∃ f, fileIn (crashM kept ns j st.m) nm = f := ⟨_, rfl⟩
      have hgf : GoodF f := by rw [← hf]; exact good_fileIn (good_crashM _ _ _ HG.out j) _
      have E1 := Aside0.mk (show crashM kept ns (j + 1) st.m = put (crashM kept ns j st.m) nm (crashF kept j f) by rw [← hf, ← hgd]; rfl)
      obtain ⟨mb, a1, a2, hb, hm⟩ := HD.out
      obtain ⟨c0, c1, c2, c3, fr⟩ := cells4 hb
      have hlk : (Instr.lookup 58 (.map (some mb)) (.string nm) false).run Try.prog wr = .ok (.agg #[.string f.b, .int .i64 f.sure]) wr := by
        cases hl : look (crashM kept ns j st.m) nm with
        | none =>
          have : f = ⟨⟨#[]⟩, 0⟩ := by rw [← hf]; simp [fileIn, hl]
          rw [this]
          exact MapOf.at_absent strInj strKeyed hm Try.underlying58 (strOk hnk) (zeroFile wr) hl
        | some g =>
          have : f = g := by rw [← hf]; simp [fileIn, hl]
          rw [this]
          exact MapOf.at_found strInj strKeyed hm Try.underlying58 (strOk hnk) (zeroFile wr) hl
      have HBK := Aside0.mk hb
      have HM := Aside0.mk hm
      have HNK := Aside0.mk hnk
      have HGF := Aside0.mk hgf
      clear hb hm hnm hgd hf hnk hgf hC
      by_cases hjk : j < kept.length
      · have hq := HK.out wr HF.out
        obtain ⟨ad1, rfl, q1⟩ := C_int hq hjk
        obtain ⟨kj, hkj⟩ : ∃ kj, kept[j] = kj := ⟨_, rfl⟩
        rw [hkj] at q1
        have E2 := Aside0.mk (show crashN kept j f = mn (mx kj 0) ((f.b.size : Int) - f.sure) by rw [crashN, if_pos hjk, List.getD_eq_getElem?_getD, List.getElem?_eq_getElem hjk, ← hkj]; rfl)
        have hkj := Aside0.mk hkj
        clear hq
        --REGION6
        obtain ⟨o1, o2, o3⟩ := HGF.out
        obtain ⟨z1, hz1⟩ : ∃ z1, mx kj 0 = z1 := ⟨_, rfl⟩
        obtain ⟨z2, hz2⟩ : ∃ z2, mn z1 ((f.b.size : Int) - f.sure) = z2 := ⟨_, rfl⟩
        replace E2 := Aside0.mk (show crashN kept j f = z2 by rw [E2.out, hz1, hz2])
        have hr := crashN_range kept j f HGF.out
        rw [E2.out] at hr
        have hsub : IntKind.i64.wrap ((f.b.size : Int) - f.sure) = (f.b.size : Int) - f.sure := IntWalk.i64_in _ (by omega)
        have hy1 : (if kj < 0 then 0 else kj) = z1 := hz1
        have hy2 : (if (f.b.size : Int) - f.sure < z1 then (f.b.size : Int) - f.sure else z1) = z2 := hz2
        clear hz1 hz2
        go_wp2_with fail
        refine region_still (by kernel_rfl) (by kernel_rfl) (fun W => W.heap[wr.heap.size]? = some (.cells #[.string f.b, .int .i64 f.sure] 64) ∧ W.heap[d]? = some (.cells #[.int .i64 st.room, .map (some mb), .int .i64 st.fuse, .bool st.down] 60) ∧ MapOf Try.prog 9 Value.string fileV W mb (crashM kept ns j st.m) ∧ Kd.string.R 9 W w.heap.size (fun _ => True) (.slice (some ad) ns.length cc) ns ∧ Frm A w W ∧ W.cell? (ad1.add j) = some (.int .i64 kj))
          ⟨blk_drew (blk_new _ _), blk_drew (blk_alloc HBK.out _), (HM.out.alloc _).drew, Kd.R_drew (Kd.R_alloc HR.out _), (HF.out.alloc _).drew, (HK.out _ (HF.out.alloc _).drew |> fun h => by obtain ⟨_, e, hq⟩ := C_int h hjk; cases e; rw [hkj.out] at hq; exact hq)⟩ ?_
        clear c0 c1 c2 c3 fr hlk q0 q1
        rintro w2 ⟨z2', b2, m2, r2, f2, q1⟩
        obtain ⟨c0, c1, c2, c3, fr⟩ := cells4 b2
        obtain ⟨d0, d1, dr⟩ := cells2 z2'
        have Z2 := Aside0.mk z2'
        have B2 := Aside0.mk b2
        have M2 := Aside0.mk m2
        have R2 := Aside0.mk r2
        have F2 := Aside0.mk f2
        clear z2' b2 m2 r2 f2
        repeat still_step
        refine wpStill_nil ?_
        have p1 : 0 ≤ f.sure + z2 := by omega
        have p2 : f.sure + z2 ≤ (f.b.size : Int) := by omega
        have hadd : IntKind.i64.wrap (f.sure + z2) = f.sure + z2 := IntWalk.i64_in _ (by omega)
        clear hr hy1 hy2 hsub
        go_wp2_with fail
        refine region_tail 17 (by kernel_rfl) (by kernel_rfl) (fun W => W.heap[wr.heap.size]? = some (.cells #[.string f.b, .int .i64 f.sure] 64) ∧ W.heap[d]? = some (.cells #[.int .i64 st.room, .map (some mb), .int .i64 st.fuse, .bool st.down] 60) ∧ MapOf Try.prog 9 Value.string fileV W mb (crashM kept ns j st.m) ∧ Kd.string.R 9 W w.heap.size (fun _ => True) (.slice (some ad) ns.length cc) ns ∧ Frm A w W)
          ⟨Z2.out, B2.out, M2.out.drew, Kd.R_drew R2.out, F2.out.drew⟩ ?_
        clear c0 c1 c2 c3 fr d0 d1 dr q1
        rintro w3 ⟨z3, b3, m3, r3, f3⟩
        obtain ⟨c0, c1, c2, c3, fr⟩ := cells4 b3
        obtain ⟨d0, d1, dr⟩ := cells2 z3
        have B3 := Aside0.mk b3
        have M3 := Aside0.mk m3
        have R3 := Aside0.mk r3
        have F3 := Aside0.mk f3
        clear z3 b3 m3 r3 f3
        simp only [List.take_succ_cons, List.take_zero, List.drop_succ_cons, List.drop_zero]
        repeat still_step
        refine wpStill_nil ?_
        refine wpList_mapUpdate_of strInj strKeyed w3 rfl _ _ _ 58 64 rfl Try.underlying58 mb _ rfl M3.out nm rfl (strOk HNK.out) (⟨f.b.extract 0 (f.sure + z2).toNat, f.sure + z2⟩ : DFile) rfl ?_
        rintro w4 m4 f4 z4
        have hne := MapOf.ne M3.out B3.out
        have EF := Aside0.mk (show crashF kept j f = ⟨f.b.extract 0 (f.sure + z2).toNat, f.sure + z2⟩ by unfold crashF; rw [E2.out])
        have HD4 := Aside0.mk (show DskAt w4 A d { st with m := crashM kept ns (j + 1) st.m } from ⟨mb, a1, a2, f4.keeps B3.out hne, by rw [E1.out, EF.out]; exact m4⟩)
        have HR4 := Aside0.mk (R_frm R3.out f4 (fun k hk e => by have := HA.out _ a2; omega))
        have HF4 := Aside0.mk (F3.out.andThen f4 (fun i e => by rw [e]; exact Or.inl a2))
        clear hadd m4 f4 z4 c0 c1 c2 c3 fr d0 d1 dr p1 p2 o1 o2 o3
        go_wp2_with fail
        go_roundw
        case rel => exact ⟨j + 1, by omega, by go_num, HD4, HR4, HF4⟩
        case measure => simp [intOf]; omega
      · have E2 := Aside0.mk (show crashN kept j f = 0 by rw [crashN, if_neg hjk])
        obtain ⟨o1, o2, o3⟩ := HGF.out
        have p1 : 0 ≤ f.sure := o1
        have p2 : f.sure ≤ (f.b.size : Int) := o2
        have hadd : IntKind.i64.wrap f.sure = f.sure := IntWalk.i64_in _ (by omega)
        go_wp2_with fail
        refine region_tail 17 (by kernel_rfl) (by kernel_rfl) (fun W => W.heap[wr.heap.size]? = some (.cells #[.string f.b, .int .i64 f.sure] 64) ∧ W.heap[d]? = some (.cells #[.int .i64 st.room, .map (some mb), .int .i64 st.fuse, .bool st.down] 60) ∧ MapOf Try.prog 9 Value.string fileV W mb (crashM kept ns j st.m) ∧ Kd.string.R 9 W w.heap.size (fun _ => True) (.slice (some ad) ns.length cc) ns ∧ Frm A w W)
          ⟨blk_drew (blk_new _ _), blk_drew (blk_alloc HBK.out _), (HM.out.alloc _).drew, Kd.R_drew (Kd.R_alloc HR.out _), (HF.out.alloc _).drew⟩ ?_
        clear c0 c1 c2 c3 fr hlk q0
        rintro w3 ⟨z3, b3, m3, r3, f3⟩
        obtain ⟨c0, c1, c2, c3, fr⟩ := cells4 b3
        obtain ⟨d0, d1, dr⟩ := cells2 z3
        have B3 := Aside0.mk b3
        have M3 := Aside0.mk m3
        have R3 := Aside0.mk r3
        have F3 := Aside0.mk f3
        clear z3 b3 m3 r3 f3
        simp only [List.take_succ_cons, List.take_zero, List.drop_succ_cons, List.drop_zero]
        repeat still_step
        refine wpStill_nil ?_
        refine wpList_mapUpdate_of strInj strKeyed w3 rfl _ _ _ 58 64 rfl Try.underlying58 mb _ rfl M3.out nm rfl (strOk HNK.out) (⟨f.b.extract 0 (f.sure).toNat, f.sure⟩ : DFile) rfl ?_
        rintro w4 m4 f4 z4
        have hne := MapOf.ne M3.out B3.out
        have EF := Aside0.mk (show crashF kept j f = ⟨f.b.extract 0 (f.sure).toNat, f.sure⟩ by unfold crashF; rw [E2.out]; simp)
        have HD4 := Aside0.mk (show DskAt w4 A d { st with m := crashM kept ns (j + 1) st.m } from ⟨mb, a1, a2, f4.keeps B3.out hne, by rw [E1.out, EF.out]; exact m4⟩)
        have HR4 := Aside0.mk (R_frm R3.out f4 (fun k hk e => by have := HA.out _ a2; omega))
        have HF4 := Aside0.mk (F3.out.andThen f4 (fun i e => by rw [e]; exact Or.inl a2))
        clear hadd m4 f4 z4 c0 c1 c2 c3 fr d0 d1 dr p1 p2 o1 o2 o3
        go_wp2_with fail
        go_roundw
        case rel => exact ⟨j + 1, by omega, by go_num, HD4, HR4, HF4⟩
        case measure => simp [intOf]; omega
    · have hjj : j = ns.length := by omega
      subst hjj
      obtain ⟨mb, a1, a2, hb, hm⟩ := HD.out
      obtain ⟨c0, c1, c2, c3, fr⟩ := cells4 hb
      have HB2 := Aside0.mk hb
      have HM2 := Aside0.mk hm
      clear hb hm
      go_wp2_with fail
      go_end0
      have hne := MapOf.ne HM2.out HB2.out
      rw [E0.out]
      have h2 := blk_set (blk_set HB2.out 3 (.bool false)) 2 (.int .i64 (-1))
      exact ⟨rfl, ⟨mb, a1, a2, by simpa using h2, (HM2.out.frm ((Frm.refl (fun i => i = d) _).setCell (p := ⟨d, 3, none⟩) (Or.inl rfl) (.bool false)) (fun e => hne e.symm)).frm ((Frm.refl (fun i => i = d) _).setCell (p := ⟨d, 2, none⟩) (Or.inl rfl) (.int .i64 (-1))) (fun e => hne e.symm)⟩, (HF.out.setCell (Or.inl a1) _).setCell (Or.inl a1) _⟩
end Go.Proofs.Ytpmnljdhjgjgfaa.Thw
