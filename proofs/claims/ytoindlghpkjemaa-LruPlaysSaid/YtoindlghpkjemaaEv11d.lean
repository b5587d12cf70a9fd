/- Layer 11: Get. -/
import Derived.Test.YtoindlghpkjemaaEv11c
namespace Go.Proofs.Ytoindlghpkjemaa.Thw
open Go Go.RowKit Go.Proofs.YtoindlghpkjemaaW.PrintWords Go.Proofs.YtoindlghpkjemaaW.PrintLast Go.Proofs.YtoindlghpkjemaaW.PrintMore
set_option linter.unusedVariables false
set_option linter.unusedSimpArgs false
theorem Sg.refs {it : Nat → It} : ∀ {l : List Nat} {prev f t nxt : Int}, Sg it prev l f t nxt → (∀ i ∈ l, i < 64) → Ref1 prev → Ref1 nxt → Ref1 f ∧ Ref1 t ∧ ∀ i ∈ l, Ref1 (it i).newer ∧ Ref1 (it i).older
  | [], prev, f, t, nxt, ⟨h1, h2⟩, _, hp, hn => ⟨h1 ▸ hn, h2 ▸ hp, by simp⟩
  | i :: l, prev, f, t, nxt, ⟨h1, h2, h3⟩, hb, hp, hn => by
    have hi : i < 64 := hb i (List.mem_cons_self ..)
    obtain ⟨r1, r2, r3⟩ := Sg.refs h3 (fun j hj => hb j (List.mem_cons_of_mem _ hj)) (Or.inr ⟨i, hi, rfl⟩) hn
    refine ⟨Or.inr ⟨i, hi, h1⟩, r2, fun j hj => ?_⟩
    rcases List.mem_cons.1 hj with rfl | hj
    · exact ⟨h2 ▸ hp, r1⟩
    · exact r3 j hj
theorem Lc.Ok.refs {c : Lc} {l fs : List Nat} (h : c.Ok l fs) : Ref1 c.first ∧ Ref1 c.last ∧ ∀ i ∈ l, Ref1 (c.it i).newer ∧ Ref1 (c.it i).older :=
  h.row.2.refs (fun i hi => h.bd i (List.mem_append_left _ hi)) (Or.inl rfl) (Or.inl rfl)
/-- The cache in memory, in order. -/
structure Cch (w : World) (A : Nat → Prop) (p : Nat) (c : Lc) (l fs : List Nat) : Prop where
  at_ : LruAt w A p c
  ok : c.Ok l fs
  key : ∀ i ∈ l, BkOk (c.it i).blk
theorem Cch.keys {w : World} {A : Nat → Prop} {p : Nat} {c : Lc} {l fs : List Nat} (h : Cch w A p c l fs) : ∀ q ∈ c.abs l, BkOk q.1 := fun q hq => by
  obtain ⟨i, hi, rfl⟩ := List.mem_map.1 hq
  exact h.key i hi
theorem Cch.frm {w w' : World} {A S : Nat → Prop} {p : Nat} {c : Lc} {l fs : List Nat} (h : Cch w A p c l fs) (hf : Frm S w w') (hn : ∀ k, k < w.heap.size → A k → ¬ S k) : Cch w' A p c l fs := ⟨h.at_.frm hf hn, h.ok, h.key⟩
theorem Cch.below {w w' : World} {A : Nat → Prop} {p : Nat} {c : Lc} {l fs : List Nat} (h : Cch w A p c l fs) (hb : Below w.heap.size w w') : Cch w' A p c l fs := ⟨h.at_.below hb, h.ok, h.key⟩
theorem Cch.mono {w : World} {A A' : Nat → Prop} {p : Nat} {c : Lc} {l fs : List Nat} (h : Cch w A p c l fs) (hA : ∀ k, k < w.heap.size → A k → A' k) : Cch w A' p c l fs := ⟨h.at_.mono hA, h.ok, h.key⟩
def GetPost (w : World) (A : Nat → Prop) (p : Nat) (X : Row2) (b : Bk) (most : Int) (e : Ending) (w' : World) : Prop :=
  ∃ c' l' fs', e = .returned (.tuple #[.string ((look X b).getD ⟨#[]⟩), .bool (look X b).isSome]) ∧ Cch w' A p c' l' fs' ∧ c'.abs l' = getD2 X b ∧ c'.most = most ∧ Frm A w w'
theorem zeroI (w : World) : (zeroValue 3).run Try.prog w = .ok (.int .i64 0) w := by kernel_rfl
set_option maxHeartbeats 3200000 in
set_option maxRecDepth 100000 in
theorem lru_Get.calls (w : World) (A : Nat → Prop) (p : Nat) (c : Lc) (l fs : List Nat) (h : Cch w A p c l fs) (b : Bk) (hb : BkOk b) :
    Calls Try.prog 26 #[.pointer (some ⟨p, 0, none⟩), bkV b] w (GetPost w A p (c.abs l) b c.most) := by
  have H := Aside0.mk h
  have HB := Aside0.mk hb
  have HO := Aside0.mk h.at_.own
  have hlt := h.at_.lt
  obtain ⟨b1, b2⟩ := b
  clear h hb
  show Calls Try.prog 26 #[.pointer (some ⟨p, 0, none⟩), .agg #[.int .i64 b1, .int .i64 b2]] w (GetPost w A p (c.abs l) (b1, b2) c.most)
  rcases H.out.ok.look (b1, b2) with ⟨n1, n2⟩ | ⟨a, i, d, rfl, hbi, n1, n2⟩
  · have N1 := Aside0.mk n1
    have N2 := Aside0.mk n2
    clear n1 n2
    go_enter Try.func26, Try.ntmps26
    go_wp2_with fail
    refine region_still (by kernel_rfl) (by kernel_rfl) (fun W => W.heap[w.heap.size]? = some (.cells #[.int .i64 b1, .int .i64 b2] 54) ∧ Cch W A p c l fs ∧ Frm A w W)
      ⟨blk_drew (blk_new w _), ⟨(H.out.at_.alloc _).drew, H.out.ok, H.out.key⟩, ((Frm.refl A w).alloc _).drew⟩ ?_
    rintro w2 ⟨x2, l2, f2⟩
    obtain ⟨d0, d1, dr⟩ := cells2' x2
    obtain ⟨fv, mb, amb, q1, q2, q3, q4, q5⟩ := l2.at_.parts
    have hlk := MapOf.absent bkInj bkKeyed q3 Try.underlying86 (bkOk _ HB.out) (zeroI w2) N1.out
    simp only [bkV] at hlk
    have L2 := Aside0.mk l2
    have F2 := Aside0.mk f2
    clear x2 l2 f2 q1 q3 q4
    repeat still_step
    refine wpStill_nil ?_
    go_wp2_with fail
    go_ret2
    exact ⟨c, l, fs, by rw [N2.out]; rfl, L2.out, by simp [getD2, N2.out], rfl, F2.out⟩
  · have N1 := Aside0.mk n1
    have N2 := Aside0.mk n2
    have hi : i < 64 := H.out.ok.bd i (by simp)
    obtain ⟨hn, ho⟩ := H.out.ok.refs.2.2 i (by simp)
    have z0 : 0 ≤ (i : Int) := by omega
    have z1 : (i : Int) < 64 := by omega
    have HBI := Aside0.mk hbi
    clear n1 n2 hbi
    go_enter Try.func26, Try.ntmps26
    go_wp2_with fail
    refine region_still (by kernel_rfl) (by kernel_rfl) (fun W => W.heap[w.heap.size]? = some (.cells #[.int .i64 b1, .int .i64 b2] 54) ∧ Cch W A p c (a ++ i :: d) fs ∧ Frm A w W)
      ⟨blk_drew (blk_new w _), ⟨(H.out.at_.alloc _).drew, H.out.ok, H.out.key⟩, ((Frm.refl A w).alloc _).drew⟩ ?_
    rintro w2 ⟨x2, l2, f2⟩
    obtain ⟨d0, d1, dr⟩ := cells2' x2
    obtain ⟨fv, mb, amb, q1, q2, q3, q4, q5⟩ := l2.at_.parts
    have hlk := MapOf.found bkInj bkKeyed q3 Try.underlying86 (bkOk _ HB.out) (zeroI w2) N1.out
    simp only [bkV] at hlk
    have L2 := Aside0.mk l2
    have F2 := Aside0.mk f2
    clear x2 l2 f2 q1 q3 q4
    repeat still_step
    refine wpStill_nil ?_
    go_wp2_with fail
    refine (lru_off.calls _ A p c L2.out.at_ i hi hn ho).mono ?_
    rintro e w3 ⟨rfl, l3, f3⟩
    have L3 := Aside0.mk l3
    have F3 := Aside0.mk f3
    clear l3 f3 hlk q2
    have hrow := Lc.off_row H.out.ok.row
    have hrf := (Sg.refs hrow.2 (fun j hj => H.out.ok.bd j (by
      rcases List.mem_append.1 hj with x | x
      · simp [x]
      · simp [x])) (Or.inl rfl) (Or.inl rfl)).1
    go_wp2_with fail
    refine (lru_ahead.calls _ A p (c.off i) L3.out i hi hrf).mono ?_
    rintro e w4 ⟨rfl, l4, f4⟩
    obtain ⟨k1, k2, k3⟩ := H.out.ok.touch
    have hdel := H.out.ok.del
    have hits : (((c.off i).ahead i).it i).s = (c.it i).s := ((c.off i).ahead_it i i).2.trans (c.off_it i i).2
    have hkey : ∀ j ∈ i :: (a ++ d), BkOk (((c.off i).ahead i).it j).blk := fun j hj => by
      rw [((c.off i).ahead_it i j).1, (c.off_it i j).1]
      exact H.out.key j (by
        rcases List.mem_cons.1 hj with rfl | hj
        · simp
        · rcases List.mem_append.1 hj with x | x <;> simp [x])
    have L4 := Aside0.mk (Cch.mk l4 k1 hkey)
    have F4 := Aside0.mk ((F2.out.andThen F3.out (fun k hk => Or.inl hk)).andThen f4 (fun k hk => Or.inl hk))
    have K2 := Aside0.mk k2
    have K3 := Aside0.mk k3
    have HD := Aside0.mk hdel
    obtain ⟨j0, j1, j2, j3, j4⟩ := l4.item hi
    rw [hits] at j2
    clear l4 f4 k2 k3 hdel hits hkey hrow hrf
    go_wp2_with fail
    go_ret2
    refine ⟨_, _, _, by rw [N2.out]; rfl, L4.out, ?_, K3.out, F4.out⟩
    rw [K2.out, HBI.out]
    simp only [getD2, N2.out]
    rw [← HD.out, HBI.out]
end Go.Proofs.Ytoindlghpkjemaa.Thw
