/- Layer 10: keys, walked. -/
import Derived.Test.YtcpjfpbfopkngaaEv10m
namespace Go.Proofs.Ytcpjfpbfopkngaa.Thw
open Go Go.RowKit Go.Proofs.YtcpjfpbfopkngaaW.PrintWords Go.Proofs.YtcpjfpbfopkngaaW.PrintLast Go.Proofs.YtcpjfpbfopkngaaW.PrintMore
set_option linter.unusedVariables false
set_option linter.unusedSimpArgs false
attribute [local go_sem] Oper.semAt_some
theorem wpListIn_app {F : Fence} {n : Nat} {P : Program} {w : World} {ops : Array Oper} {rest : List Oper} {o : Oper} {a : Act} {Q : Exit → Act → World → Prop} (hg : o.guard = none) (s x : Operand) (t : TypeId) (hop : o.op = Op.call { callee := Callee.builtin Builtin.append, args := #[s, x], argTypes := #[t, t] })
    {v u v' : Value} {w' : World} (hs : a.eval s = v) (hx : a.eval x = u) (hrun : (Builtin.append_ #[t, t] o.type #[v, u]).run P w = .ok v' w') (hK : wpListIn F n P ops Q rest (a.put o.dst v') w') : wpListIn F n P ops Q (o :: rest) a w := by
  refine wpListIn_plain hg fun K hK' => ?_
  unfold Oper.wpIn
  refine ⟨?_, ?_⟩
  · simp [Oper.about, hop, resolve, Target.leads, Sem.run_pure]
  · rw [Oper.semAt_plain F _ _ (by rw [hop]; intro c hc'; cases hc')]
    simp [execOp, hop, resolve, invoke, builtin, hs, hx, hrun, Result.andThen]
    exact hK' _ _ hK
theorem funcNil0 (d : Nat) (w : World) (f : Fn) (a b : Array Value) : (Op.equalIn (d + 1) 64 (.func f a b) .nilFunc).run Try.prog w = .ok false w := by
  simp [Op.equalIn, run_underlying Try.underlying64]
theorem funcNil (w : World) (f : Fn) (a b : Array Value) : (binOp BinOp.eql 64 (.func f a b) .nilFunc).run Try.prog w = .ok (.bool false) w := by
  simp only [binOp]
  simp [Op.equal, Op.maxDepth, funcNil0 9999 w f a b]
theorem run_loadBox {P : Program} {t e : TypeId} {w : World} {b : Nat} {v : Value} (hu : P.underlying t = some (.slice e)) (hb : w.cell? ⟨b, 0, none⟩ = some v) : (loadVar t ⟨b, 0, none⟩).run P w = .ok v w := by
  have hagg : (isAgg t).run P w = .ok false w := by
    unfold isAgg
    rw [Sem.run_bind, run_underlying hu w]
    rfl
  simp [loadVar, Sem.run_bind, hagg, hb]
theorem results_box2 {P : Program} {fn : Func} {p q : Tmp} {t u e e' : TypeId} (h : fn.results = #[.cell p t, .cell q u]) (tmps : Array Value) (w : World) (b c : Nat) (v1 v2 : Value)
    (hp : tmps.getD p undef = .pointer (some ⟨b, 0, none⟩)) (hq : tmps.getD q undef = .pointer (some ⟨c, 0, none⟩)) (hu : P.underlying t = some (.slice e)) (hu' : P.underlying u = some (.slice e'))
    (hb : w.cell? ⟨b, 0, none⟩ = some v1) (hc : w.cell? ⟨c, 0, none⟩ = some v2) : (results fn tmps).run P w = .ok (.tuple #[v1, v2]) w := by
  have hp' : tmps[p]?.getD undef = .pointer (some ⟨b, 0, none⟩) := by simpa using hp
  have hq' : tmps[q]?.getD undef = .pointer (some ⟨c, 0, none⟩) := by simpa using hq
  simp [results, h, hp', hq', asAddr, run_loadBox hu hb, run_loadBox hu' hc]
def KeysPost (w : World) (T : List Slt) (key : ByteArray) (e : Ending) (w' : World) : Prop :=
  ∃ (L : List Slt) (A1 : Option Addr) (c1 : Nat) (A2 : Option Addr) (c2 : Nat), Ris T L ∧ e = .returned (.tuple #[.slice A1 (L.filter (onB key)).length c1, .slice A2 (L.filter (onB key)).length c2]) ∧
    Kd.R Kd.string 9 w' w.heap.size (fun _ => True) (.slice A1 (L.filter (onB key)).length c1) ((L.filter (onB key)).map (·.1)) ∧ Kd.R kL 31 w' w.heap.size (fun _ => True) (.slice A2 (L.filter (onB key)).length c2) ((L.filter (onB key)).map (·.2.1)) ∧ Below w.heap.size w w'
abbrev FC (w : World) : Value := .func (.func 36) #[] #[.pointer (some ⟨w.heap.size + 1 + 1 + 1 + 1, 0, none⟩), .pointer (some ⟨w.heap.size + 1 + 1 + 1 + 1 + 1, 0, none⟩)]
set_option maxRecDepth 100000 in
set_option maxHeartbeats 12800000 in
theorem keys.calls (w : World) (A : Nat → Prop) (p : Nat) (T : List Slt) (many : Int) (D : DirAt w A p T many) (hT : T.length ≤ 1000) (key : ByteArray) :
    Calls Try.prog 21 #[.pointer (some ⟨p, 0, none⟩), .string key] w (KeysPost w T key) := by
  have HD := Aside0.mk D
  clear D
  have hfe : ∀ (w : World) (f : Fn) (a b : Array Value), (binOp BinOp.eql 64 (.func f a b) .nilFunc).run Try.prog w = .ok (.bool false) w := funcNil
  refine callsIn_wide (n := 9).1 ?_
  refine callsIn_of_wp_marks Try.func21 rfl trivial ?_ rfl
  simp only [Try.ntmps21, List.size_toArray, List.length_cons, List.length_nil, Nat.reduceAdd, Nat.reduceSub, Array.replicate_succ, Array.replicate_zero, List.push_toArray, List.append_toArray, List.nil_append, List.cons_append]
  gi_wp2_with fail
  refine ⟨trivial, ?_⟩
  refine (callsIn_wide.2 (from_calls p key _)).mono ?_
  rintro e w' ⟨rfl, rfl⟩
  gi_wp2_with fail
  obtain ⟨w2, hw2⟩ : ∃ w2, (((((w.alloc (.cells #[.slice none 0 0] 38)).alloc (.cells #[.slice none 0 0] 46)).alloc (.cells #[.slice none 0 0] 38)).alloc (.cells #[.slice none 0 0] 46)).alloc (.cells #[.pointer (some ⟨p, 0, none⟩)] 25)).alloc (.cells #[.string key] 9) = w2 := ⟨_, rfl⟩
  have HSZ := Aside0.mk (show w2.heap.size = w.heap.size + 6 by rw [← hw2]; simp)
  have HB2 := Aside0.mk (show Below w.heap.size w w2 by rw [← hw2]; exact below_alloc (below_alloc (below_alloc (below_alloc (below_alloc (below_alloc (Below.refl _ _) _) _) _) _) _) _)
  have X4 := Aside0.mk (show Boxed w2 w.heap.size 38 (.slice none 0 0) by rw [← hw2]; exact (((((Boxed.new w _ _).alloc _).alloc _).alloc _).alloc _).alloc _)
  have X5 := Aside0.mk (show Boxed w2 (w.heap.size + 1) 46 (.slice none 0 0) by
    rw [← hw2]
    have := ((((Boxed.new (w.alloc (.cells #[.slice none 0 0] 38)) 46 (.slice none 0 0)).alloc (.cells #[.slice none 0 0] 38)).alloc (.cells #[.slice none 0 0] 46)).alloc (.cells #[.pointer (some ⟨p, 0, none⟩)] 25)).alloc (.cells #[.string key] 9)
    simpa using this)
  have X6 := Aside0.mk (show Boxed w2 (w.heap.size + 1 + 1) 38 (.slice none 0 0) by
    rw [← hw2]
    have := (((Boxed.new ((w.alloc (.cells #[.slice none 0 0] 38)).alloc (.cells #[.slice none 0 0] 46)) 38 (.slice none 0 0)).alloc (.cells #[.slice none 0 0] 46)).alloc (.cells #[.pointer (some ⟨p, 0, none⟩)] 25)).alloc (.cells #[.string key] 9)
    simpa using this)
  have X7 := Aside0.mk (show Boxed w2 (w.heap.size + 1 + 1 + 1) 46 (.slice none 0 0) by
    rw [← hw2]
    have := ((Boxed.new (((w.alloc (.cells #[.slice none 0 0] 38)).alloc (.cells #[.slice none 0 0] 46)).alloc (.cells #[.slice none 0 0] 38)) 46 (.slice none 0 0)).alloc (.cells #[.pointer (some ⟨p, 0, none⟩)] 25)).alloc (.cells #[.string key] 9)
    simpa using this)
  have X8 := Aside0.mk (show Boxed w2 (w.heap.size + 1 + 1 + 1 + 1) 25 (.pointer (some ⟨p, 0, none⟩)) by
    rw [← hw2]
    have := (Boxed.new ((((w.alloc (.cells #[.slice none 0 0] 38)).alloc (.cells #[.slice none 0 0] 46)).alloc (.cells #[.slice none 0 0] 38)).alloc (.cells #[.slice none 0 0] 46)) 25 (.pointer (some ⟨p, 0, none⟩))).alloc (.cells #[.string key] 9)
    simpa using this)
  have X9 := Aside0.mk (show Boxed w2 (w.heap.size + 1 + 1 + 1 + 1 + 1) 9 (.string key) by
    rw [← hw2]
    have := Boxed.new (((((w.alloc (.cells #[.slice none 0 0] 38)).alloc (.cells #[.slice none 0 0] 46)).alloc (.cells #[.slice none 0 0] 38)).alloc (.cells #[.slice none 0 0] 46)).alloc (.cells #[.pointer (some ⟨p, 0, none⟩)] 25)) 9 (.string key)
    simpa using this)
  rw [hw2]
  clear hw2
  have D2 := Aside0.mk (HD.out.below HB2.out)
  obtain ⟨n0, hn0⟩ : ∃ n0, w2.heap.size = n0 := ⟨_, rfl⟩
  refine range_all (α := Slt) (by omega) (gf := 36) (lb := #[.pointer (some ⟨w.heap.size + 1 + 1 + 1 + 1, 0, none⟩), .pointer (some ⟨w.heap.size + 1 + 1 + 1 + 1 + 1, 0, none⟩)]) rfl (enters_of Try.func36 (by kernel_rfl) rfl)
    (from1_all (9 - 1) (by omega) (fun k => k = w.heap.size + 1 + 1 ∨ k = w.heap.size + 1 + 1 + 1) (w.heap.size + 1 + 1 + 1 + 1) (w.heap.size + 1 + 1 + 1 + 1 + 1) p key A T many w2 X8.out X9.out (by rintro (h | h) <;> omega) D2.out (by omega)) (fun _ => rfl)
    (KI w w2.heap.size w.heap.size (w.heap.size + 1) (w.heap.size + 1 + 1) (w.heap.size + 1 + 1 + 1)) (KI.own (by have := HSZ.out; omega)) ⟨⟨none, 0, none, 0, X6.out, Kd.R_nil _ _ _ _ _, X7.out, Kd.R_nil _ _ _ _ _⟩, X4.out, X5.out, HB2.out, Nat.le_refl _⟩
    (fun s a' V => ∃ Bx : Nat, w2.heap.size ≤ Bx ∧ V.heap[Bx]? = some (.cells #[.int .i64 s.2.1.1, .int .i64 s.2.1.2.1, .int .i64 s.2.1.2.2.1, .int .u64 s.2.1.2.2.2] 31) ∧ ∃ x9 x17 x18 : Value, x9 = .string s.1 ∧ a' = { tmps := #[.pointer (some ⟨p, 0, none⟩), .string key, undef, undef, .pointer (some ⟨w.heap.size, 0, none⟩), .pointer (some ⟨w.heap.size + 1, 0, none⟩), .pointer (some ⟨w.heap.size + 1 + 1, 0, none⟩), .pointer (some ⟨w.heap.size + 1 + 1 + 1, 0, none⟩), FC w, x9, .pointer (some ⟨Bx, 0, none⟩), .pointer (some ⟨p, 0, none⟩), .string key, FC w, FC w, .bool false, FC w, x17, x18, undef, undef, undef, undef, undef, undef, undef, undef, undef, undef, undef, undef, undef], defers := [] })
    ?hAx ?assign ?body ?done
  case hAx =>
    rintro x a' s U V row ⟨Bx, hB, h1, h2⟩ hg hr
    exact ⟨Bx, hB, (grownBy_keeps_cells hg (fun r e => (hr r e).2) h1 rfl).trans h1, h2⟩
  case assign =>
    intro q pre s V K hi hK
    obtain ⟨k0, ⟨l0, l1, l2, l3⟩, is⟩ := s
    simp only [pairV] at hK ⊢
    have hi8 := hi.2.2.2.2
    gi_wp2
    exact hK _ _ ((KeepsOthers.alloc _ _).from _) (Kq.of_below (below_alloc (Below.refl _ _) _)) ((KI.own (by have := HSZ.out; omega)).alloc _ hi) ⟨V.heap.size, hi8, blk_new _ _, _, _, _, rfl, rfl⟩
  case body =>
    rintro q pre s a' V hKI ⟨Bx, hBx, hbx, x9, x17, x18, hx9, rfl⟩ hlen
    subst hx9
    obtain ⟨⟨A1, c1, A2, c2, h6, r1, h7, r2⟩, h4, h5, hB, hz⟩ := hKI
    obtain ⟨k0, ⟨l0, l1, l2, l3⟩, is⟩ := s
    simp only at hbx ⊢
    have hsz := HSZ.out
    have hpl : pre.length ≤ 1000 := by omega
    have e6 : w.heap.size + 1 + 1 < w2.heap.size := by omega
    have e7 : w.heap.size + 1 + 1 + 1 < w2.heap.size := by omega
    -- the first append
    obtain ⟨in1, own1, fin1⟩ := R_own_append (p := k0) (cs := [.string k0]) (Kd.R_alloc r1 (.cells #[.string k0] 9)) rfl
    rw [List.length_map] at own1 fin1
    have hob1 := fun k hk => own_base own1 k hk
    have typ1 := fun k hk => own_typed own1 k hk
    obtain ⟨i1, hi1, hy0, hy1, hy2⟩ := info_parts infoStr
    obtain ⟨v3, w3, run3, o3, g3, _, t3⟩ := run_append_own_at (P := Try.prog) (V.alloc (.cells #[.string k0] 9)) w2.heap.size 38 38 9 i1 (.string ⟨#[]⟩) 1 16 Try.underlying38 hi1 hy0 hy1 hy2 rfl (by decide) _ _ in1 own1 ⟨V.heap.size, 0, none⟩ 1 1 [.string k0] rfl (cell_one_new _ _ _) (by intro u hu; simp at hu; subst hu; rfl) (by simp only [maxLen]; omega) (by omega) (by simp; omega)
    have r3 := fin1 v3 w3 o3 g3 t3
    obtain ⟨A3, c3, rfl⟩ := Kd.R_slice r3
    rw [show (pre.map (·.1) ++ [k0]).length = pre.length + 1 by simp] at r3 o3 t3 run3
    have keep1 : ∀ k o, V.heap[k]? = some o → (Value.slice A1 pre.length c1).ownBlock ≠ some k → w3.heap[k]? = some o := fun k o hk hne => (g3.block k (by have := lt_of_block hk; simp; omega) (fun e => hne e.symm)).trans (blk_alloc hk _)
    have low1 : ∀ k, k < w2.heap.size → (Value.slice A1 pre.length c1).ownBlock ≠ some k := fun k hk e => by have := hob1 k e; omega
    have X6b := keep1 _ _ h6 (low1 _ e6)
    have hbl := keep1 _ _ hbx (fun e => by
      obtain ⟨cs, hc⟩ := typ1 Bx e
      rw [blk_alloc hbx _] at hc
      injection hc with hc
      injection hc with _ hc _
      cases hc)
    obtain ⟨V2, hV2⟩ : ∃ V2, w3.setCell ⟨w.heap.size + 1 + 1, 0, none⟩ (.slice A3 (pre.length + 1) c3) = V2 := ⟨_, rfl⟩
    have keep2 : ∀ k o, w3.heap[k]? = some o → k ≠ w.heap.size + 1 + 1 → V2.heap[k]? = some o := fun k o hk hne => by rw [← hV2]; exact (Below.heap_setCell _ _ _ _ hne).trans hk
    have sz2 : V2.heap.size = w3.heap.size := by rw [← hV2]; simp [World.setCell]
    have szg3 := g3.size
    simp only [World.size_alloc] at szg3
    have X6c : V2.heap[w.heap.size + 1 + 1]? = some (.cells #[.slice A3 (pre.length + 1) c3] 38) := by rw [← hV2]; simpa using blk_set X6b 0 (.slice A3 (pre.length + 1) c3)
    have X7c := keep2 _ _ (keep1 _ _ h7 (low1 _ e7)) (by omega)
    have X4c := keep2 _ _ (keep1 _ _ h4 (low1 _ (by omega))) (by omega)
    have X5c := keep2 _ _ (keep1 _ _ h5 (low1 _ (by omega))) (by omega)
    have XLc := keep2 _ _ hbl (by omega)
    have r3c : Kd.R Kd.string 9 V2 w2.heap.size (fun _ => True) (.slice A3 (pre.length + 1) c3) (pre.map (·.1) ++ [k0]) := R_stays r3 (fun _ _ _ _ _ _ h => h) (fun g cs ho hc => by rw [hc]; exact keep2 _ _ hc (by have := own_base o3 g ho; omega)) (by omega)
    have r2c : Kd.R kL 31 V2 w2.heap.size (fun _ => True) (.slice A2 pre.length c2) (pre.map (·.2.1)) := R_stays r2 (fun _ _ _ _ _ _ h => by rw [kL_E h]; exact kL_M _ _ _ _) (fun g cs ho hc => by
      rw [hc]
      obtain ⟨inn, own2⟩ := Kd.R_own r2
      refine keep2 _ _ (keep1 _ _ hc (fun e => ?_)) (by have := own_base own2 g ho; omega)
      obtain ⟨cs', hc'⟩ := typ1 g e
      rw [blk_alloc hc _] at hc'
      injection hc' with hc'
      injection hc' with _ hc' _
      cases hc') (by omega)
    -- the second append
    obtain ⟨in2, own2, fin2⟩ := R_own_append (p := ((l0, l1, l2, l3) : Loc4)) (Kd.R_alloc r2c (.cells #[.int .i64 l0, .int .i64 l1, .int .i64 l2, .int .u64 l3] 31)) (kL_M _ _ _ (l0, l1, l2, l3))
    rw [List.length_map] at own2 fin2
    have hob2 := fun k hk => own_base own2 k hk
    have typ2 := fun k hk => own_typed own2 k hk
    obtain ⟨i2, hi2, hx0, hx1, hx2⟩ := info_parts infoLoc
    obtain ⟨v4, w4, run4, o4, g4, _, t4⟩ := run_append_own_at (P := Try.prog) (V2.alloc (.cells #[.int .i64 l0, .int .i64 l1, .int .i64 l2, .int .u64 l3] 31)) w2.heap.size 46 46 31 i2 (.agg #[.int .i64 0, .int .i64 0, .int .i64 0, .int .u64 0]) 4 32 Try.underlying46 hi2 hx0 hx1 hx2 rfl (by decide) _ _ in2 own2 ⟨V2.heap.size, 0, none⟩ 1 1 [.int .i64 l0, .int .i64 l1, .int .i64 l2, .int .u64 l3] rfl (fun j u hu => by
      have hb := blk_new V2 (.cells #[.int .i64 l0, .int .i64 l1, .int .i64 l2, .int .u64 l3] 31)
      have : ((⟨V2.heap.size, 0, none⟩ : Addr).add j) = ⟨V2.heap.size, 0 + j, none⟩ := by unfold Addr.add; split <;> simp_all
      rw [this, Nat.zero_add]
      simp only [World.cell?, hb]
      simpa using hu) (by intro u hu; simp at hu; rcases hu with rfl | rfl | rfl | rfl <;> rfl) (by simp only [maxLen]; omega) (by omega) (by simp; omega)
    have r4 := fin2 v4 w4 o4 g4 t4
    obtain ⟨A4, c4, rfl⟩ := Kd.R_slice r4
    rw [show (pre.map (·.2.1) ++ [((l0, l1, l2, l3) : Loc4)]).length = pre.length + 1 by simp] at r4 o4 t4 run4
    have keep3 : ∀ k o, V2.heap[k]? = some o → (Value.slice A2 pre.length c2).ownBlock ≠ some k → w4.heap[k]? = some o := fun k o hk hne => (g4.block k (by have := lt_of_block hk; simp; omega) (fun e => hne e.symm)).trans (blk_alloc hk _)
    have low2 : ∀ k, k < w2.heap.size → (Value.slice A2 pre.length c2).ownBlock ≠ some k := fun k hk e => by have := hob2 k e; omega
    have X7d := keep3 _ _ X7c (low2 _ e7)
    obtain ⟨V4, hV4⟩ : ∃ V4, w4.setCell ⟨w.heap.size + 1 + 1 + 1, 0, none⟩ (.slice A4 (pre.length + 1) c4) = V4 := ⟨_, rfl⟩
    have keep4 : ∀ k o, w4.heap[k]? = some o → k ≠ w.heap.size + 1 + 1 + 1 → V4.heap[k]? = some o := fun k o hk hne => by rw [← hV4]; exact (Below.heap_setCell _ _ _ _ hne).trans hk
    have sz4 : V4.heap.size = w4.heap.size := by rw [← hV4]; simp [World.setCell]
    have szg4 := g4.size
    simp only [World.size_alloc] at szg4
    have X7e : V4.heap[w.heap.size + 1 + 1 + 1]? = some (.cells #[.slice A4 (pre.length + 1) c4] 46) := by rw [← hV4]; simpa using blk_set X7d 0 (.slice A4 (pre.length + 1) c4)
    have X6e := keep4 _ _ (keep3 _ _ X6c (low2 _ e6)) (by omega)
    have r4e : Kd.R kL 31 V4 w2.heap.size (fun _ => True) (.slice A4 (pre.length + 1) c4) (pre.map (·.2.1) ++ [(l0, l1, l2, l3)]) := R_stays r4 (fun _ _ _ _ _ _ h => by rw [kL_E h]; exact kL_M _ _ _ _) (fun g cs ho hc => by rw [hc]; exact keep4 _ _ hc (by have := own_base o4 g ho; omega)) (by omega)
    have r3e : Kd.R Kd.string 9 V4 w2.heap.size (fun _ => True) (.slice A3 (pre.length + 1) c3) (pre.map (·.1) ++ [k0]) := R_stays r3c (fun _ _ _ _ _ _ h => h) (fun g cs ho hc => by
      rw [hc]
      refine keep4 _ _ (keep3 _ _ hc (fun e => ?_)) (by have := own_base o3 g ho; omega)
      obtain ⟨cs', hc'⟩ := typ2 g e
      rw [blk_alloc hc _] at hc'
      injection hc' with hc'
      injection hc' with _ hc' _
      cases hc') (by omega)
    have HKI := Aside0.mk (show KI w w2.heap.size w.heap.size (w.heap.size + 1) (w.heap.size + 1 + 1) (w.heap.size + 1 + 1 + 1) (pre ++ [(k0, (l0, l1, l2, l3), is)]) V4 by
      refine ⟨⟨A3, c3, A4, c4, ?_⟩, keep4 _ _ (keep3 _ _ X4c (low2 _ (by omega))) (by omega), keep4 _ _ (keep3 _ _ X5c (low2 _ (by omega))) (by omega), ?_, by omega⟩
      · rw [List.length_append, List.map_append, List.map_append]
        exact ⟨X6e, r3e, X7e, r4e⟩
      · have b1 := (below_alloc hB (.cells #[.string k0] 9)).grown g3 (by simp; omega) (fun k e => by have := hob1 k e; omega)
        have b2 := b1.setCell (p := ⟨w.heap.size + 1 + 1, 0, none⟩) (by show w.heap.size ≤ w.heap.size + 1 + 1; omega) (.slice A3 (pre.length + 1) c3)
        rw [hV2] at b2
        have b3 := (below_alloc b2 (.cells #[.int .i64 l0, .int .i64 l1, .int .i64 l2, .int .u64 l3] 31)).grown g4 (by simp; omega) (fun k e => by have := hob2 k e; omega)
        have b4 := b3.setCell (p := ⟨w.heap.size + 1 + 1 + 1, 0, none⟩) (by show w.heap.size ≤ w.heap.size + 1 + 1 + 1; omega) (.slice A4 (pre.length + 1) c4)
        rw [hV4] at b4
        exact b4)
    have HKQ := Aside0.mk (show Kq w2.heap.size (fun k => k = w.heap.size + 1 + 1 ∨ k = w.heap.size + 1 + 1 + 1) V V4 by
      have q1 : Kq w2.heap.size (fun k => k = w.heap.size + 1 + 1 ∨ k = w.heap.size + 1 + 1 + 1) V (V.alloc (.cells #[.string k0] 9)) := Kq.of_below (below_alloc (Below.refl _ _) _)
      have q2 := q1.trans (Kq.grown g3 9 (by decide) (fun g e => ⟨hob1 g e, by obtain ⟨cs, hc⟩ := typ1 g e; exact ⟨_, _, hc⟩⟩))
      have q3 := q2.trans (Kq.setCell (Or.inl rfl) 38 (by decide) X6b (.slice A3 (pre.length + 1) c3))
      rw [hV2] at q3
      have q4 := q3.trans (Kq.of_below (below_alloc (Below.refl _ V2) (.cells #[.int .i64 l0, .int .i64 l1, .int .i64 l2, .int .u64 l3] 31)))
      have q5 := q4.trans (Kq.grown g4 31 (by decide) (fun g e => ⟨hob2 g e, by obtain ⟨cs, hc⟩ := typ2 g e; exact ⟨_, _, hc⟩⟩))
      have q6 := q5.trans (Kq.setCell (Or.inr rfl) 46 (by decide) X7d (.slice A4 (pre.length + 1) c4))
      rw [hV4] at q6
      exact q6)
    have HKF := Aside0.mk (show KeepsFrom w2.heap.size V V4 by
      have q1 := (KeepsOthers.alloc V (.cells #[.string k0] 9)).trans (KeepsOthers.of_grownBy g3 (fun j o hj ho => by obtain ⟨cs, hc⟩ := typ1 j hj; rw [hc] at ho; cases ho; rfl))
      have q2 := q1.trans (KeepsOthers.setCell _ ⟨w.heap.size + 1 + 1, 0, none⟩ (.slice A3 (pre.length + 1) c3))
      rw [hV2] at q2
      have q3 := (q2.trans (KeepsOthers.alloc V2 (.cells #[.int .i64 l0, .int .i64 l1, .int .i64 l2, .int .u64 l3] 31))).trans (KeepsOthers.of_grownBy g4 (fun j o hj ho => by obtain ⟨cs, hc⟩ := typ2 j hj; rw [hc] at ho; cases ho; rfl))
      have q4 := q3.trans (KeepsOthers.setCell _ ⟨w.heap.size + 1 + 1 + 1, 0, none⟩ (.slice A4 (pre.length + 1) c4))
      rw [hV4] at q4
      exact q4.from _)
    have c6a := (cells1 h6).1
    have f6 := (cells1 X6b).2
    have c6b := (cells1 X6b).1
    have c7a := (cells1 X7c).1
    have f7 := (cells1 X7d).2
    have c7b := (cells1 X7d).1
    have cl := cells4e XLc
    obtain ⟨cl0, cl1, cl2, cl3, clf⟩ := cl
    clear sz2 sz4 keep1 keep2 keep3 keep4 low1 low2 fin1 fin2 r1 r2 r3 r4 r3c r2c r4e r3e X6c X7c X4c X5c XLc X6e X7e X6b X7d h4 h5 h6 h7 hbl hbx typ1 typ2 own1 own2 o3 o4 t3 t4 g3 g4
    gi_wp2_with (first | (gi_at_builtin; refine wpListIn_app rfl (.tmp 22) (.tmp 24) 38 rfl rfl rfl run3 ?_; clear run3) | (gi_at_builtin; refine wpListIn_app rfl (.tmp 26) (.tmp 28) 46 rfl rfl rfl run4 ?_; clear run4))
    rw [← hn0]
    exact ⟨HKF.out, HKQ.out, HKI.out⟩
  case done =>
    rintro D ys V hD ⟨L, hL, rfl⟩ ⟨⟨A1, c1, A2, c2, h6, r1, h7, r2⟩, h4, h5, hB, hz⟩ hK
    have c6 := (cells1 h6).1
    have c7 := (cells1 h7).1
    obtain ⟨c4, f4⟩ := cells1 h4
    obtain ⟨c5, f5⟩ := cells1 h5
    gi_wp2
    gi_region
    all_goals
      gi_wp2
      have hsz := HSZ.out
      obtain ⟨V', hV'⟩ : ∃ V', ((V.setCell ⟨w.heap.size, 0, none⟩ (.slice A1 (L.filter (onB key)).length c1)).setCell ⟨w.heap.size + 1, 0, none⟩ (.slice A2 (L.filter (onB key)).length c2)).drew = V' := ⟨_, rfl⟩
      rw [hV']
      have hk : ∀ k, k ≠ w.heap.size → k ≠ w.heap.size + 1 → V'.heap[k]? = V.heap[k]? := fun k e1 e2 => by
        rw [← hV']
        exact (Below.heap_setCell _ _ _ _ e2).trans (Below.heap_setCell _ _ _ _ e1)
      have hs : V'.heap.size = V.heap.size := by rw [← hV']; simp [World.setCell]
      have e4 : V'.heap[w.heap.size]? = some (.cells #[.slice A1 (L.filter (onB key)).length c1] 38) := by
        rw [← hV']
        have := blk_set h4 0 (.slice A1 (L.filter (onB key)).length c1)
        exact (Below.heap_setCell _ _ _ _ (by show w.heap.size ≠ w.heap.size + 1; omega)).trans (by simpa using this)
      have e5 : V'.heap[w.heap.size + 1]? = some (.cells #[.slice A2 (L.filter (onB key)).length c2] 46) := by
        rw [← hV']
        have := blk_set (w := V.setCell ⟨w.heap.size, 0, none⟩ (.slice A1 (L.filter (onB key)).length c1)) (g := w.heap.size + 1) (t := 46) (cs := #[.slice none 0 0]) ((Below.heap_setCell _ _ _ _ (by show w.heap.size + 1 ≠ w.heap.size; omega)).trans h5) 0 (.slice A2 (L.filter (onB key)).length c2)
        simp at this
        exact this
      have hKD : V'.heap[D]? = some (.deferred (some [])) := (hk D (by omega) (by omega)).trans hK
      have hp : ∀ k, k ≠ D → (V'.putObj D (.deferred none)).heap[k]? = V'.heap[k]? := fun k e => World.putObj_heap_other e
      refine ⟨by simp, .inl ⟨_, _, rfl, run_takeDeferred hKD, ?_⟩⟩
      have r4 := (cells1 ((hp w.heap.size (by omega)).trans e4)).1
      have r5 := (cells1 ((hp (w.heap.size + 1) (by omega)).trans e5)).1
      refine ⟨_, results_box2 rfl _ _ w.heap.size (w.heap.size + 1) _ _ rfl rfl Try.underlying38 Try.underlying46 r4 r5, ?_⟩
      refine ⟨L, A1, c1, A2, c2, hL, rfl, ?_, ?_, ?_⟩
      · obtain ⟨in1, own1⟩ := Kd.R_own r1
        exact Kd.R_lower (R_stays r1 (fun _ _ _ _ _ _ h => h) (fun g cs ho hc => (hp g (fun e => by rw [e, hK] at hc; cases hc)).trans (hk g (by have := own_base own1 g ho; omega) (by have := own_base own1 g ho; omega))) (by simp; omega)) (by omega)
      · obtain ⟨in1, own1⟩ := Kd.R_own r2
        exact Kd.R_lower (R_stays r2 (fun _ _ _ _ _ _ h => by rw [kL_E h]; exact kL_M _ _ _ _) (fun g cs ho hc => (hp g (fun e => by rw [e, hK] at hc; cases hc)).trans (hk g (by have := own_base own1 g ho; omega) (by have := own_base own1 g ho; omega))) (by simp; omega)) (by omega)
      · have hb2 := (hB.setCell (p := ⟨w.heap.size, 0, none⟩) (Nat.le_refl _) (.slice A1 (L.filter (onB key)).length c1)).setCell (p := ⟨w.heap.size + 1, 0, none⟩) (by show w.heap.size ≤ w.heap.size + 1; omega) (.slice A2 (L.filter (onB key)).length c2)
        have hb3 : Below w.heap.size w V' := by rw [← hV']; exact ⟨hb2.os, hb2.tape, hb2.output, hb2.size, hb2.block⟩
        exact ⟨hb3.os, hb3.tape, hb3.output, Nat.le_trans hb3.size (grownBy_putObj' V' D (.deferred none)).size, fun k hk' => (World.putObj_heap_other (by omega)).trans (hb3.block k hk')⟩
end Go.Proofs.Ytcpjfpbfopkngaa.Thw
