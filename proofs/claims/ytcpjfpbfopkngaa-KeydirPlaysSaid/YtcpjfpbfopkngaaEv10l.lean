/- Layer 10: From, in a range over it. -/
import Derived.Test.YtcpjfpbfopkngaaEv10j
namespace Go.Proofs.Ytcpjfpbfopkngaa.Thw
open Go Go.RowKit Go.Proofs.YtcpjfpbfopkngaaW.PrintWords Go.Proofs.YtcpjfpbfopkngaaW.PrintLast Go.Proofs.YtcpjfpbfopkngaaW.PrintMore
set_option linter.unusedVariables false
set_option linter.unusedSimpArgs false
attribute [local go_sem] Oper.semAt_some
theorem cells1 {w : World} {s : Nat} {v0 : Value} {t : TypeId} (h : w.heap[s]? = some (.cells #[v0] t)) : w.cell? ⟨s, 0, none⟩ = some v0 ∧ w.frozen? ⟨s, 0, none⟩ = false := by
  refine ⟨?_, ?_⟩ <;> simp [World.cell?, World.frozen?, h]
theorem values_stops (F : Fence) (n : Nat) (h7 : F.fn 44) (hro : F.round = none) (hn : 1 ≤ n) (n0 : Nat) (X : Nat → Prop) (Bs c : Nat) (A : Option Addr) (L : List Slt) (hL : L.length ≤ 1000000) (w : World)
    (hBs : w.heap[Bs]? = some (.cells #[.slice A L.length c] 52)) (hR : Kd.R kS 57 w 0 (fun k => (Value.slice A L.length c).ownBlock = some k) (.slice A L.length c) L) :
    SeqStopsK F n Try.prog 44 #[.pointer (some ⟨Bs, 0, none⟩)] (fun k : Nat => #[sV (elS L k)]) (Kq n0 X) (fun ys => ys = List.range L.length) (fun _ => True) L.length w := fun l J Jx W hW hJ _ hY h0 =>
  values1_in F n h7 hro hn n0 X l Bs c A L hL J Jx hY W ((hW.cell (p := ⟨Bs, 0, none⟩) (lt_of_block hBs)).trans (by simp [World.cell?, hBs])) (Kd.R_below hR hW) h0 hJ
set_option maxHeartbeats 1600000 in
theorem values_calls (A : Option Addr) (n c : Nat) (w : World) :
    Calls Try.prog 37 #[.slice A n c] w fun e w' => e = .returned (.func (.func 44) #[] #[.pointer (some ⟨w.heap.size, 0, none⟩)]) ∧ w' = w.alloc (.cells #[.slice A n c] 52) := by
  have hmf : ∀ (fn : Fn) (first cap : Array Value) (w : World), (Instr.makeFunc fn first cap).run Try.prog w = .ok (.func fn first cap) w := fun _ _ _ _ => rfl
  go_enter Try.func37, Try.ntmps37
  go_wp2_with fail
  go_ret
  exact ⟨rfl, rfl⟩
set_option maxHeartbeats 1600000 in
theorem from_calls (p : Nat) (k : ByteArray) (w : World) :
    Calls Try.prog 30 #[.pointer (some ⟨p, 0, none⟩), .string k] w fun e w' => e = .returned (.func (.func 36) #[] #[.pointer (some ⟨w.heap.size, 0, none⟩), .pointer (some ⟨w.heap.size + 1, 0, none⟩)]) ∧ w' = (w.alloc (.cells #[.pointer (some ⟨p, 0, none⟩)] 25)).alloc (.cells #[.string k] 9) := by
  have hmf : ∀ (fn : Fn) (first cap : Array Value) (w : World), (Instr.makeFunc fn first cap).run Try.prog w = .ok (.func fn first cap) w := fun _ _ _ _ => rfl
  go_enter Try.func30, Try.ntmps30
  go_wp2_with fail
  go_ret
  exact ⟨rfl, rfl⟩
/-- From a key on. -/
def onB (k : ByteArray) (s : Slt) : Bool := !(Op.bytesLess s.1.toList k.toList)
def selL (L : List Slt) (k : ByteArray) (pre : List Nat) : List Slt := (pre.map (elS L)).filter (onB k)
theorem selL_range (L : List Slt) (k : ByteArray) : selL L k (List.range L.length) = L.filter (onB k) := by
  unfold selL
  congr 1
  apply List.ext_getElem
  · simp
  · intro i h1 h2
    simp only [List.getElem_map, List.getElem_range]
    exact elS_at h2
theorem selL_snoc (L : List Slt) (k : ByteArray) (pre : List Nat) (x : Nat) : selL L k (pre ++ [x]) = selL L k pre ++ (if onB k (elS L x) = true then [elS L x] else []) := by
  unfold selL
  rw [List.map_append, List.filter_append]
  cases h : onB k (elS L x) <;> simp [h]
theorem selL_length (L : List Slt) (k : ByteArray) (pre : List Nat) : (selL L k pre).length ≤ pre.length := by
  unfold selL
  exact Nat.le_trans (List.length_filter_le _ _) (by simp)
def pairV (s : Slt) : Array Value := #[.string s.1, .agg #[.int .i64 s.2.1.1, .int .i64 s.2.1.2.1, .int .i64 s.2.1.2.2.1, .int .u64 s.2.1.2.2.2]]
theorem own_of_below {β : Type} {B : Nat} {J : β → World → Prop} (hJ : OwnFrom B J) {s : β} {W W' : World} (h : J s W) (hb : Below W.heap.size W W') : J s W' :=
  hJ s W W' none h ⟨hb.os, hb.tape, hb.output, hb.size, fun k hk _ => hb.block k hk⟩ (fun r e => by cases e)
set_option maxRecDepth 100000 in
set_option maxHeartbeats 6400000 in
theorem from1_all (n : Nat) (hn : 4 ≤ n) (X : Nat → Prop) (Bd Bk p : Nat) (key : ByteArray) (A0 : Nat → Prop) (T : List Slt) (many : Int) (w : World) (hd : w.heap[Bd]? = some (.cells #[.pointer (some ⟨p, 0, none⟩)] 25)) (hk : w.heap[Bk]? = some (.cells #[.string key] 9)) (hXk : ¬ X Bk)
    (D : DirAt w A0 p T many) (hT : T.length ≤ 1000000) :
    SeqAll n Try.prog 36 #[.pointer (some ⟨Bd, 0, none⟩), .pointer (some ⟨Bk, 0, none⟩)] pairV X (fun xs => ∃ L, Ris T L ∧ xs = L.filter (onB key)) T.length w := by
  intro l J W hW hWs hJ hY h0
  have HD := Aside0.mk (D.below hW)
  have h1n : 1 ≤ n := by omega
  have HKB := Aside0.mk (blk_below hk hW)
  have c0 := (cells1 (blk_alloc (blk_below hd hW) (.cells #[.func (.yield l) #[] #[]] 69))).1
  have HKL := Aside0.mk (lt_of_block hk)
  have HWS := Aside0.mk hWs
  have HJ := Aside0.mk hJ
  have HY := Aside0.mk hY
  have H0 := Aside0.mk h0
  clear hY h0 hJ hk hd D hW hWs
  refine callsIn_of_wp_marks Try.func36 rfl trivial ?_ rfl
  simp only [Try.ntmps36, List.size_toArray, List.length_cons, List.length_nil, Nat.reduceAdd, Nat.reduceSub, Array.replicate_succ, Array.replicate_zero, List.push_toArray, List.append_toArray, List.nil_append, List.cons_append]
  have HD2 := Aside0.mk (HD.out.below (below_alloc (Below.refl _ _) (.cells #[.func (.yield l) #[] #[]] 69)))
  gi_wp2_with fail
  refine ⟨trivial, ?_⟩
  (refine (callsIn_wide.2 (dir_rising.calls _ A0 p T many HD2.out hT)).mono ?_; rintro e w1 ⟨A1, c1, L, rfl, r1, s1, b1⟩; have R1 := Aside0.mk r1; have S1 := Aside0.mk s1; have B1 := Aside0.mk b1; clear r1 s1 b1)
  gi_wp2_with fail
  refine ⟨trivial, ?_⟩
  (refine (callsIn_wide.2 (values_calls A1 L.length c1 _)).mono ?_; rintro e w' ⟨rfl, rfl⟩)
  gi_wp2_with fail
  have XY := Aside0.mk (blk_alloc (blk_below (blk_new W (.cells #[.func (.yield l) #[] #[]] 69)) B1.out) (.cells #[.slice A1 L.length c1] 52))
  have KB := Aside0.mk (blk_alloc (blk_below (blk_alloc HKB.out (.cells #[.func (.yield l) #[] #[]] 69)) B1.out) (.cells #[.slice A1 L.length c1] 52))
  have BS := Aside0.mk (blk_new w1 (.cells #[.slice A1 L.length c1] 52))
  have R2 := Aside0.mk (Kd.R_alloc (R_only (Kd.R_lower R1.out (Nat.zero_le _))) (.cells #[.slice A1 L.length c1] 52))
  have HB2 := Aside0.mk (show Below W.heap.size W (w1.alloc (.cells #[.slice A1 L.length c1] 52)) from (below_alloc ((below_alloc (Below.refl W.heap.size W) (.cells #[.func (.yield l) #[] #[]] 69)).trans (B1.out.mono (by simp))) _))
  have HSZ := Aside0.mk (show W.heap.size + 2 ≤ (w1.alloc (.cells #[.slice A1 L.length c1] 52)).heap.size by have := B1.out.size; simp at this ⊢; omega)
  have HJ2 := Aside0.mk (own_of_below HJ.out H0.out HB2.out)
  have HLL := Aside0.mk (Ris.length S1.out)
  obtain ⟨bs, hbs⟩ : ∃ bs, w1.heap.size = bs := ⟨_, rfl⟩
  obtain ⟨by3, hby⟩ : ∃ b, W.heap.size = b := ⟨_, rfl⟩
  rw [hbs] at BS ⊢
  rw [hby] at XY HSZ HJ HWS ⊢
  generalize w1.alloc (.cells #[.slice A1 L.length c1] 52) = w2 at XY KB BS R2 HB2 HSZ HJ2 ⊢
  clear c0 HD HD2 HKB B1 R1 HB2 H0 hbs hby
  refine wpIn_rangeFunc_ownH (α := Nat) rfl h1n (gf := 44) (lb := #[.pointer (some ⟨bs, 0, none⟩)]) rfl trivial (enters_of Try.func44 (by kernel_rfl) rfl)
    (values_stops Fence.wide (n - 1) trivial rfl (by omega) w.heap.size X bs c1 A1 L (by have := HLL.out; omega) w2 BS.out R2.out)
    (fun h k => h.trans k) ?kb (Below.refl _ _) (fun _ => rfl)
    (fun pre V => J (selL L key pre) V ∧ V.heap[by3]? = some (.cells #[.func (.yield l) #[] #[]] 69) ∧ V.heap[Bk]? = some (.cells #[.string key] 9))
    (fun _ _ _ => False) ?hI (fun _ _ _ _ _ hs _ _ => hs) ⟨HJ2.out, XY.out, KB.out⟩
    (fun x a' V => ∃ Bx : Nat, V.heap[Bx]? = some (.cells #[.string (elS L x).1, .int .i64 (elS L x).2.1.1, .int .i64 (elS L x).2.1.2.1, .int .i64 (elS L x).2.1.2.2.1, .int .u64 (elS L x).2.1.2.2.2, .bool (elS L x).2.2] 57) ∧ a' = { tmps := #[.func (.yield l) #[] #[], .pointer (some ⟨Bd, 0, none⟩), .pointer (some ⟨Bk, 0, none⟩), .pointer (some ⟨by3, 0, none⟩), .pointer (some ⟨Bx, 0, none⟩), .pointer (some ⟨p, 0, none⟩), .slice A1 L.length c1, .func (.func 44) #[] #[.pointer (some ⟨bs, 0, none⟩)], sV (elS L x), undef, undef, undef, undef, undef, undef, undef, undef, undef, undef, undef, undef, undef], defers := [] })
    ?hAx ?assign ?body ?done ?stop
  case kb =>
    intro V q o o' hq hqo hc hw
    exact Kq.putObj (by have := HSZ.out; have := HWS.out; omega) hqo hc
  case hI =>
    intro s A B row hs hg hr
    refine ⟨HJ.out _ _ _ _ hs.1 hg (fun r e => ⟨by have := (hr r e).1; have := HSZ.out; omega, ?_⟩), (grownBy_keeps_cells hg (fun r e => (hr r e).2) hs.2.1 rfl).trans hs.2.1, (grownBy_keeps_cells hg (fun r e => (hr r e).2) hs.2.2 rfl).trans hs.2.2⟩
    exact (hr r e).2
  case hAx =>
    intro x a' s A B row hs hg hr
    obtain ⟨Bx, h1, h2⟩ := hs
    exact ⟨Bx, (grownBy_keeps_cells hg (fun r e => (hr r e).2) h1 rfl).trans h1, h2⟩
  case assign =>
    intro q pre x V K hi hK
    simp only [sV]
    generalize hse : elS L x = s at hK ⊢
    obtain ⟨k0, ⟨l0, l1, l2, l3⟩, is⟩ := s
    simp only at hK ⊢
    gi_wp2
    exact hK _ _ ((KeepsOthers.alloc _ _).from _) (Kq.of_below (below_alloc (Below.refl _ _) _)) ⟨own_of_below HJ.out hi.1 (below_alloc (Below.refl _ _) _), blk_alloc hi.2.1 _, blk_alloc hi.2.2 _⟩ ⟨V.heap.size, blk_new _ _, rfl⟩
  case body =>
    rintro q pre x a' V hq _ ⟨hj, hb1, hb2⟩ ⟨Bx, hbx, rfl⟩ hlen
    have HYX := HY.out (selL L key pre) (elS L x) V hj (by have := selL_length L key pre; have := HLL.out; omega)
    have HSN := Aside0.mk (selL_snoc L key pre x)
    have HB1 := Aside0.mk hb1
    have HB2 := Aside0.mk hb2
    generalize elS L x = s at hbx HYX HSN ⊢
    obtain ⟨k0, ⟨l0, l1, l2, l3⟩, is⟩ := s
    simp only [sV, pairV] at hbx HYX ⊢
    obtain ⟨b0, b1, b2, b3, b4, b5, br⟩ := cells6d hbx
    have c3 := (cells1 hb1).1
    have c2 := (cells1 hb2).1
    clear hb1 hb2 hbx
    have hn1 : 1 ≤ n - 1 - 1 := by omega
    cases hon : Op.bytesLess k0.toList key.toList with
    | true =>
      have HE := Aside0.mk (show selL L key (pre ++ [x]) = selL L key pre by rw [HSN.out, if_neg (by unfold onB; simp [hon]), List.append_nil])
      gi_wp2
      refine ⟨fun _ h => (by cases h), ?_⟩
      gi_wp2
      exact ⟨KeepsFrom.refl _ _, Kq.refl _ _ _, by rw [HE.out]; exact hj, HB1.out, HB2.out⟩
    | false =>
      have HE := Aside0.mk (show selL L key (pre ++ [x]) = selL L key pre ++ [(k0, (l0, l1, l2, l3), is)] by rw [HSN.out, if_pos (by unfold onB; simp [hon])])
      obtain ⟨fn, tmps, assign, body, hy, hRo⟩ := HYX
      gi_wp2
      refine RoundIn.mono (show RoundIn (Fence.wide.inRound q) (n - 1 - 1 - 1) Try.prog l fn tmps assign body V (fun e W' => e = Ending.returned (Value.bool true) ∧ J (selL L key pre ++ [(k0, (l0, l1, l2, l3), is)]) W' ∧ Ko w.heap.size X V W') from ⟨hRo.1, fun c cs _ => hRo.2 c cs (fun _ h => by cases h)⟩) ?_
      rintro e V3 ⟨rfl, hj3, hk3⟩
      gi_wp2
      refine ⟨⟨hk3.2.size, fun k o hk ho hc => hk3.2.same k o (by have := HSZ.out; have := HWS.out; omega) ho hc⟩, hk3.1, by rw [HE.out]; exact hj3, ?_, ?_⟩
      · exact hk3.1.2 _ _ HB1.out (Or.inr ⟨_, _, _, rfl, Or.inr (Or.inr rfl)⟩)
      · exact hk3.1.2 _ _ HB2.out (Or.inl ⟨HKL.out, hXk⟩)
  case done =>
    rintro D ys V hD rfl ⟨hj, h1, h2⟩ hK
    gi_wp2
    refine ⟨by simp, .inl ⟨_, _, rfl, run_takeDeferred hK, ?_⟩⟩
    refine ⟨_, results_none rfl _ _ _, ⟨_, rfl⟩, _, ⟨L, S1.out, rfl⟩, ?_⟩
    rw [selL_range] at hj
    exact HJ.out.putObj _ hj (by have := HSZ.out; omega) hK rfl
  case stop =>
    rintro D c pre V _ _ h _
    exact h.elim
end Go.Proofs.Ytcpjfpbfopkngaa.Thw
