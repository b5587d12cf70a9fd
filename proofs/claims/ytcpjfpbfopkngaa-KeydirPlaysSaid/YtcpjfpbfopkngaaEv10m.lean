/- Layer 10: keys, the law's function that ranges over From. -/
import Derived.Test.YtcpjfpbfopkngaaEv10l
namespace Go.Proofs.Ytcpjfpbfopkngaa.Thw
open Go Go.RowKit Go.Proofs.YtcpjfpbfopkngaaW.PrintWords Go.Proofs.YtcpjfpbfopkngaaW.PrintLast Go.Proofs.YtcpjfpbfopkngaaW.PrintMore
set_option linter.unusedVariables false
set_option linter.unusedSimpArgs false
attribute [local go_sem] Oper.semAt_some
theorem wpListIn_append_at {F : Fence} {n : Nat} {P : Program} (w : World) {ops : Array Oper} {rest : List Oper} {o : Oper} {a : Act} {Q : Exit → Act → World → Prop}
    (hg : o.guard = none) (s x : Operand) (t : TypeId) (hop : o.op = Op.call { callee := Callee.builtin Builtin.append, args := #[s, x], argTypes := #[t, t] })
    (base : Nat) (e : TypeId) (i : TypeInfo) (z : Value) (size bytes : Nat) (h1 : P.underlying t = some (.slice e)) (h2 : P.info? e = some i) (h3 : i.zero = some z) (h4 : i.size = size) (h5 : i.bytes = bytes) (h6 : z.cells.size = size) (h7 : 0 < size)
    (v : Value) (k : Nat) (xs : List Value) (hs : a.eval s = v) (hown : w.ownsRow base e size v k xs) (ad : Addr) (m c : Nat) (news : List Value) (hx : a.eval x = .slice (some ad) m c) (hn : news.length = m * size)
    (hc : ∀ j u, news[j]? = some u → w.cell? (ad.add j) = some u) (h1c : ∀ u ∈ news, u.oneCell' = true) (b1 : k + m ≤ maxLen) (b2 : (k + m) * bytes ≤ 140737488355328) (b3 : base ≤ w.heap.size)
    (hK : ∀ v' w', w'.ownsRow base e size v' (k + m) (xs ++ news) → w.grownBy w' v.ownBlock → (v'.ownBlock = v.ownBlock ∨ v'.ownBlock = some w.heap.size) → wpListIn F n P ops Q rest (a.put o.dst v') w') :
    wpListIn F n P ops Q (o :: rest) a w := by
  refine wpListIn_plain hg fun K hK' => ?_
  obtain ⟨v', w', hrun, r1, r2, r3, r4⟩ := run_append_own_at (P := P) w base t o.type e i z size bytes h1 h2 h3 h4 h5 h6 h7 v k xs hown ad m c news hn hc h1c b1 b2 b3
  unfold Oper.wpIn
  refine ⟨?_, ?_⟩
  · simp [Oper.about, hop, resolve, Target.leads, Sem.run_pure]
  · rw [Oper.semAt_plain F _ _ (by rw [hop]; intro c hc'; cases hc')]
    simp [execOp, hop, resolve, invoke, builtin, hs, hx, hrun, Result.andThen]
    exact hK' _ _ (hK v' w' r1 r2 r4)
theorem R_own_append {α : Type} {d : Kd α} {e base : Nat} {W : World} {v : Value} {xs : List α} {p : α} {cs : List Value} (h : Kd.R d e W base (fun _ => True) v xs) (hp : d.M W base (fun _ => False) p cs) :
    ∃ inner, W.ownsRow base e d.sz v xs.length inner ∧ ∀ v1 w1, w1.ownsRow base e d.sz v1 (xs.length + 1) (inner ++ cs) → W.grownBy w1 v.ownBlock → (v1.ownBlock = v.ownBlock ∨ v1.ownBlock = some W.heap.size) → Kd.R d e w1 base (fun _ => True) v1 (xs ++ [p]) := by
  obtain ⟨h0, inner, hown, hr⟩ := h
  exact ⟨inner, hown, fun v1 w1 h1 hg hat => Kd.R_appended (d := d) (p := p) (okp := fun _ => False) h0 hr hp (fun _ hk => hk.elim) (fun _ _ => trivial) h1 hg (hat.imp id (fun h => ⟨_, h, Nat.le_refl _⟩))⟩
/-- A row of elements that lead nowhere stays where its own block stays. -/
theorem R_stays {α : Type} {d : Kd α} {e base : Nat} {A B : World} {v : Value} {xs : List α} (h : Kd.R d e A base (fun _ => True) v xs) (hE : ∀ w b ok ok' x cs, d.M w b ok x cs → d.M w b ok' x cs) (hk : ∀ g cs, v.ownBlock = some g → A.heap[g]? = some (.cells cs e (0, 0)) → B.heap[g]? = A.heap[g]?) (hs : A.heap.size ≤ B.heap.size) : Kd.R d e B base (fun _ => True) v xs := by
  obtain ⟨hok, inner, hown, hrl, hrw⟩ := h
  have h2 : Kd.R d e A base (fun k => v.ownBlock = some k) v xs := ⟨fun g hg => hg, inner, hown, hrl, fun j p hp => hE _ _ _ _ _ _ (hrw j p hp)⟩
  refine Kd.R_mono (Kd.R_step h2 (fun k ho hlt => ?_)) (fun _ _ => trivial)
  obtain ⟨inner2, hown2⟩ := Kd.R_own h2
  obtain ⟨cells, hc⟩ := own_typed hown2 k ho
  exact hk k cells ho hc
theorem Kq.grown {n0 : Nat} {X : Nat → Prop} {A B : World} {row : Option Nat} (hg : A.grownBy B row) (t : TypeId) (ht : ¬ (t = 57 ∨ t = 52 ∨ t = 69)) (h : ∀ g, row = some g → n0 ≤ g ∧ ∃ cs fr, A.heap[g]? = some (.cells cs t fr)) : Kq n0 X A B := by
  refine ⟨hg.size, fun k o hk ho => (hg.block k (Array.getElem?_eq_some_iff.1 hk).1 (fun e => ?_)).trans hk⟩
  obtain ⟨h1, cs, fr, h2⟩ := h k e.symm
  rcases ho with ho | ⟨cs', t', fr', rfl, ho⟩
  · omega
  · rw [h2] at hk
    cases hk
    exact ht ho
theorem Kq.setCell {n0 : Nat} {X : Nat → Prop} {A : World} {b : Nat} (hX : X b) {cs : Array Value} {fr : Nat × Nat} (t : TypeId) (ht : ¬ (t = 57 ∨ t = 52 ∨ t = 69)) (hb : A.heap[b]? = some (.cells cs t fr)) (v : Value) : Kq n0 X A (A.setCell ⟨b, 0, none⟩ v) := by
  refine ⟨by simp [World.setCell], fun k o hk ho => (Below.heap_setCell A ⟨b, 0, none⟩ v k (fun e => ?_)).trans hk⟩
  have e' : k = b := e
  subst e'
  rcases ho with ho | ⟨cs', t', fr', rfl, ho⟩
  · exact ho.2 hX
  · rw [hb] at hk
    cases hk
    exact ht ho
theorem infoStr : (Try.prog.info? 9).map (fun i => (i.zero, i.size, i.bytes)) = some (some (.string ⟨#[]⟩), 1, 16) := by kernel_rfl
theorem infoLoc : (Try.prog.info? 31).map (fun i => (i.zero, i.size, i.bytes)) = some (some (.agg #[.int .i64 0, .int .i64 0, .int .i64 0, .int .u64 0]), 4, 32) := by kernel_rfl
theorem kL_E {w : World} {b : Nat} {ok : Nat → Prop} {x : Loc4} {cs : List Value} (h : kL.M w b ok x cs) : cs = [.int .i64 x.1, .int .i64 x.2.1, .int .i64 x.2.2.1, .int .u64 x.2.2.2] := by
  obtain ⟨c0, c1, rfl, h0, ⟨c2, c3, rfl, h2, ⟨c4, c5, rfl, h4, h5⟩⟩⟩ := h
  have h0' : c0 = [Value.int .i64 x.1] := h0
  have h2' : c2 = [Value.int .i64 x.2.1] := h2
  have h4' : c4 = [Value.int .i64 x.2.2.1] := h4
  have h5' : c5 = [Value.int .u64 x.2.2.2] := h5
  subst h0' h2' h4' h5'
  rfl
theorem kL_M (w : World) (b : Nat) (ok : Nat → Prop) (x : Loc4) : kL.M w b ok x [.int .i64 x.1, .int .i64 x.2.1, .int .i64 x.2.2.1, .int .u64 x.2.2.2] :=
  ⟨[.int .i64 x.1], _, rfl, rfl, ⟨[.int .i64 x.2.1], _, rfl, rfl, ⟨[.int .i64 x.2.2.1], [.int .u64 x.2.2.2], rfl, rfl, rfl⟩⟩⟩
/-- What keys keeps between two rounds: its two results' boxes, out and locs with their rows. -/
def KI (w : World) (n0 b4 b5 b6 b7 : Nat) (pre : List Slt) (V : World) : Prop :=
  (∃ A1 c1 A2 c2, V.heap[b6]? = some (.cells #[.slice A1 pre.length c1] 38) ∧ Kd.R Kd.string 9 V n0 (fun _ => True) (.slice A1 pre.length c1) (pre.map (·.1)) ∧ V.heap[b7]? = some (.cells #[.slice A2 pre.length c2] 46) ∧ Kd.R kL 31 V n0 (fun _ => True) (.slice A2 pre.length c2) (pre.map (·.2.1))) ∧
  V.heap[b4]? = some (.cells #[.slice none 0 0] 38) ∧ V.heap[b5]? = some (.cells #[.slice none 0 0] 46) ∧ Below w.heap.size w V ∧ n0 ≤ V.heap.size
theorem KI.own {w : World} {n0 b4 b5 b6 b7 : Nat} (hn : w.heap.size ≤ n0) : OwnFrom n0 (KI w n0 b4 b5 b6 b7) := by
  rintro pre A B row ⟨⟨A1, c1, A2, c2, h1, h2, h3, h4⟩, h5, h6, h7, h8⟩ hg hr
  have hcells : ∀ {k : Nat} {cs : Array Value} {t : TypeId} {fr : Nat × Nat}, A.heap[k]? = some (.cells cs t fr) → B.heap[k]? = A.heap[k]? := fun hk => grownBy_keeps_cells hg (fun r e => (hr r e).2) hk rfl
  exact ⟨⟨A1, c1, A2, c2, (hcells h1).trans h1, R_stays h2 (fun _ _ _ _ _ _ h => h) (fun g cs _ hc => hcells hc) hg.size, (hcells h3).trans h3, R_stays h4 (fun _ _ _ _ _ _ h => by rw [kL_E h]; exact kL_M _ _ _ _) (fun g cs _ hc => hcells hc) hg.size⟩, (hcells h5).trans h5, (hcells h6).trans h6, h7.grown hg h7.size (fun k e => by have := (hr k e).1; omega), Nat.le_trans h8 hg.size⟩
end Go.Proofs.Ytcpjfpbfopkngaa.Thw
