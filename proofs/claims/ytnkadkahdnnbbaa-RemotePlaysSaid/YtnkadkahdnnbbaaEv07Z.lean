/- Layer 7: RemotePlays' walk. -/
import Derived.Test.YtnkadkahdnnbbaaEv07Y
import Derived.Test.YtnkadkahdnnbbaaEv07L
import Derived.Deep.CutRange
import Derived.Deep.CutBlock
namespace Go.Proofs.Ytnkadkahdnnbbaa.Thw
open Go Go.RowKit Go.Maps Go.Proofs.YtnkadkahdnnbbaaW.PrintWords Go.Proofs.YtnkadkahdnnbbaaW.PrintLast Go.Proofs.YtnkadkahdnnbbaaW.PrintMore
set_option linter.unusedVariables false
set_option linter.unusedSimpArgs false
structure OpM where
  f0 : Int
  f1 : ByteArray
  f2 : ByteArray
  f3 : List Int
def OpsM (W : World) (A : Option Addr) (n : Nat) (ops : Nat → OpM) : Prop :=
  ∀ i, i < n → ∃ ad A5 c5, A = some ad ∧ W.cell? (ad.add (i * 4)) = some (.int .i64 (ops i).f0) ∧ W.cell? ⟨(ad.add (i * 4)).block, (ad.add (i * 4)).off + 1, none⟩ = some (.string (ops i).f1) ∧ W.cell? ⟨(ad.add (i * 4)).block, (ad.add (i * 4)).off + 2, none⟩ = some (.string (ops i).f2) ∧ W.cell? ⟨(ad.add (i * 4)).block, (ad.add (i * 4)).off + 3, none⟩ = some (.slice A5 (ops i).f3.length c5) ∧ (ops i).f3.length ≤ c5 ∧ (Kd.int .i64).C W A5 (ops i).f3.length (ops i).f3
/-- Both remotes, apart, above B. -/
def Two (B : Nat) (W : World) (d g : Nat) (st : Rem) : Prop :=
  ∃ TD TR : Nat → Prop, RemAt W TD d st ∧ RfR W TR g (refL st.m) st.s st.n ∧ (∀ i, TD i → ¬ TR i) ∧ (∀ i, TD i → B ≤ i ∧ i < W.heap.size) ∧ (∀ i, TR i → B ≤ i)
theorem RemAt.nodup {w : World} {A : Nat → Prop} {r : Nat} {st : Rem} (h : RemAt w A r st) : (st.m.map (·.1)).Nodup := by
  obtain ⟨mb, sv, a1, a2, hb, hm, hq⟩ := h
  exact hm.nodup
theorem Two.close {B : Nat} {W w1 w2 : World} {d g : Nat} {st' : Rem} {TD TR : Nat → Prop} (hdis : ∀ i, TD i → ¬ TR i) (hTD : ∀ i, TD i → B ≤ i ∧ i < W.heap.size) (hTR : ∀ i, TR i → B ≤ i) (hold : ∀ i, TR i → i < W.heap.size) (hB : B ≤ W.heap.size)
    (hD : RemAt w1 (gr TD W) d st') (fD : Frm TD W w1) (hR : RfR w2 (nA TR w1 w2) g (refL st'.m) st'.s st'.n) (fR : Frm TR w1 w2) : Two B w2 d g st' := by
  refine ⟨fun i => gr TD W i ∧ i < w1.heap.size, nA TR w1 w2, hD.bound.frm fR (fun k hk hr => ?_), hR, fun i hi hr => ?_, fun i hi => ⟨?_, ?_⟩, fun i hi => ?_⟩
  · rcases hk.1 with h | h
    · exact hdis k h hr
    · have := hold k hr; omega
  · rcases hi.1 with h | h
    · rcases hr.1 with h2 | h2
      · exact hdis i h h2
      · omega
    · rcases hr.1 with h2 | h2
      · have := hold i h2; omega
      · omega
  · rcases hi.1 with h | h
    · exact (hTD i h).1
    · omega
  · have := hi.2; have := fR.size; omega
  · rcases hi.1 with h | h
    · exact hTR i h
    · have := fD.size; omega
theorem RfR.script {w w1 : World} {A : Nat → Prop} {g : Nat} {L : List RObj} {s xs : List Int} {n : Int} (h : RfR w A g L s n) (hb : Below w.heap.size w w1) {v : Value} (hR : (Kd.int .i64).R 3 w1 w.heap.size (fun _ => True) v xs) : RfR (w1.setCell ⟨g, 1, none⟩ v) (nA A w (w1.setCell ⟨g, 1, none⟩ v)) g L xs n ∧ Frm A w (w1.setCell ⟨g, 1, none⟩ v) := by
  obtain ⟨h1, h2, v0, sv, h3, h4, h5⟩ := h
  have hlt := blk_lt h3
  have hg := blk_below h3 hb
  have hsz : (w1.setCell ⟨g, 1, none⟩ v).heap.size = w1.heap.size := by simp [World.setCell]
  refine ⟨⟨⟨Or.inl h1, by rw [hsz]; exact blk_lt hg⟩, fun k hk => hk.2, v0, v, by simpa using blk_set hg 1 v, ?_, ?_⟩, (Frm.of_new hb).setCell (Or.inl h1) _⟩
  · refine Kd.R_mono (Kd.R_far (Kd.R_bound (Kd.R_below h4 hb)) (p := ⟨g, 1, none⟩) (fun k hk => hk.1.2) v) (fun k hk => ?_)
    exact ⟨⟨Or.inl hk.1.1, by rw [hsz]; exact hk.2.2.1⟩, hk.1.2⟩
  · refine Kd.Q_mono (Kd.Q_far (Kd.Q_bound (Kd.Q_lower (Kd.Q_mono (Kd.Q_bound (Kd.Q_of_R hR)) (ok' := fun k => w.heap.size ≤ k) (fun k hk => hk.2.1)) (Nat.zero_le _))) (p := ⟨g, 1, none⟩) (fun k hk => by have := hk.1; show k ≠ g; omega) v) (fun k hk => ?_)
    exact ⟨⟨Or.inr hk.1, by rw [hsz]; exact hk.2.2.1⟩, by have := hk.1; omega⟩
theorem Rem.put_len (st : Rem) (k b : ByteArray) : (st.put k b).1.m.length ≤ st.m.length + 1 := by
  unfold Rem.put
  split
  · show st.m.length ≤ _; omega
  · show (Thw.put st.m k b).length ≤ _
    unfold Thw.put
    split <;> simp
theorem Rem.putNew_len (st : Rem) (k b : ByteArray) : (st.putNew k b).1.m.length ≤ st.m.length + 1 := by
  unfold Rem.putNew
  split
  · show st.m.length ≤ _; omega
  · cases hl : look st.m k with
    | some x => show st.m.length ≤ _; omega
    | none =>
      show (Thw.put st.m k b).length ≤ _
      unfold Thw.put
      split <;> simp
theorem Rem.delete_len (st : Rem) (k : ByteArray) : (st.delete k).1.m.length ≤ st.m.length + 1 := by
  unfold Rem.delete
  split
  · show st.m.length ≤ _; omega
  · show (Thw.del st.m k).length ≤ _
    have : (Thw.del st.m k).length ≤ st.m.length := List.length_filter_le _ _
    omega
theorem Rem.get_st (st : Rem) (k : ByteArray) : (st.get k).1 = st.next := by
  unfold Rem.get
  split
  · rfl
  · split <;> rfl
set_option maxHeartbeats 3200000 in
set_option maxRecDepth 100000 in
theorem rf_Strings (w : World) (A0 A1 : Option Addr) (c0 c1 : Nat) (L : List ByteArray) (h0 : Kd.string.C w A0 L.length L) (hc0 : L.length ≤ c0) (h1 : Kd.string.C w A1 L.length L) (hc1 : L.length ≤ c1) (hl : L.length ≤ 1000000) :
    Calls Try.prog 33 #[.slice A0 L.length c0, .slice A1 L.length c1] w fun e w' => e = .returned (.bool true) ∧ Below w.heap.size w w' := by
  have H0 := Aside0.mk h0
  have H1 := Aside0.mk h1
  have HL := Aside0.mk hl
  clear h0 h1 hl
  go_enter Try.func33, Try.ntmps33
  go_wp2_with fail
  go_loopw [5] (fun v5 wr => ∃ i : Nat, i ≤ L.length ∧ v5 = .int .i64 i ∧ Aside0 (Below w.heap.size w wr)) (fun v5 _ => L.length - (intOf v5).toNat)
  case atStart => exact ⟨0, by omega, rfl, ⟨Below.refl _ _⟩⟩
  case round =>
    obtain ⟨i, hi, rfl, HB⟩ := hrel
    by_cases hlt : i < L.length
    · have d1 : decide ((i : Int) < (L.length : Int)) = true := decide_eq_true (by omega)
      have i0 : 0 ≤ (i : Int) := by omega
      have i1 : (i : Int) < (L.length : Int) := by omega
      have e0 : ∀ {A : Option Addr}, Kd.string.C w A L.length L → ∃ ad, A = some ad ∧ w.cell? (ad.add i) = some (.string L[i]) := by
        intro A hC
        obtain ⟨ad, rfl, hc⟩ := hC.2.2 (by omega)
        obtain ⟨c, hl2, hK, hcell⟩ := hc i L[i] (List.getElem?_eq_getElem hlt)
        have hK' : c = [Value.string L[i]] := hK
        subst hK'
        have := hcell 0 _ rfl
        have e1 : i * Kd.string.sz + 0 = i := by show i * 1 + 0 = i; omega
        rw [e1] at this
        exact ⟨ad, rfl, this⟩
      obtain ⟨ad0, rfl, q0⟩ := e0 H0.out
      obtain ⟨ad1, rfl, q1⟩ := e0 H1.out
      generalize L[i] = s at q0 q1
      replace q0 := pw_cell_below HB.out q0
      replace q1 := pw_cell_below HB.out q1
      clear e0
      have hll := HL.out
      go_wp2
      repeat (go_quiet (fail); try go_wp2)
      go_roundw
      case rel => exact ⟨i + 1, by omega, by go_num, ⟨by repeat (first | (with_reducible first | exact HB.out | apply below_alloc | apply pw_below_drewN | apply below_drew1) | exact HB.out)⟩⟩
      case measure => simp [intOf]; omega
    · have d1 : decide ((i : Int) < (L.length : Int)) = false := decide_eq_false (by omega)
      go_wp2_with fail
      go_ret
      exact ⟨rfl, HB.out⟩
/-- What holds behind both remotes' calls. -/
def PlayCut (B d g k : Nat) (w W : World) : Prop := ∃ st', Two B W d g st' ∧ st'.m.length ≤ k + 1 ∧ Below B w W
theorem Two.below {B : Nat} {W W' : World} {d g : Nat} {st : Rem} (h : Two B W d g st) (hb : Below W.heap.size W W') : Two B W' d g st := by
  obtain ⟨TD, TR, h1, h2, h3, h4, h5⟩ := h
  exact ⟨TD, TR, h1.frm (S := None') (Frm.of_new hb) (fun _ _ x => x), h2.below hb, h3, fun i hi => ⟨(h4 i hi).1, Nat.lt_of_lt_of_le (h4 i hi).2 hb.size⟩, h5⟩
theorem cells4o {w : World} {s : Nat} {v0 v1 v2 v3 : Value} {t : TypeId} (h : w.heap[s]? = some (.cells #[v0, v1, v2, v3] t)) :
    w.cell? ⟨s, 0, none⟩ = some v0 ∧ w.cell? ⟨s, 1, none⟩ = some v1 ∧ w.cell? ⟨s, 2, none⟩ = some v2 ∧ w.cell? ⟨s, 3, none⟩ = some v3 ∧ ∀ i, w.frozen? ⟨s, i, none⟩ = false := by
  refine ⟨?_, ?_, ?_, ?_, fun i => ?_⟩ <;> simp [World.cell?, World.frozen?, h]
def rplays18T : Bool × List (List Nat × List Nat) := (true, [([], []), ([], []), ([1], [1]), ([], []), ([3], [3]), ([0, 2, 4], [0, 2, 4]), ([], []), ([], []), ([7], [7]), ([], []), ([9], [9]), ([6, 8, 10, 5], [6, 8, 10]), ([5, 11], [5, 11]), ([12, 11, 0, 1, 2, 3, 4, 5, 6, 7, 8, 9, 10, 11, 12], [12])])
def rplays18B : List Nat := [0, 0, 2, 0, 8, 31, 0, 0, 128, 0, 512, 2047, 4095, 8191]
theorem rplays18tab : rtab .any (opsOf Try.f7 18) = rplays18T := by kernel_rfl
theorem rplays18bits : waitsOk rplays18T.2 rplays18B = true := by kernel_rfl
def rplays20T : Bool × List (List Nat × List Nat) := (true, [([], []), ([], []), ([1], [1]), ([], []), ([3], [3]), ([0, 2, 4], [0, 2, 4]), ([], []), ([], []), ([7], [7]), ([], []), ([9], [9]), ([6, 8, 10, 5], [6, 8, 10]), ([5, 11], [5, 11]), ([12, 11, 0, 1, 2, 3, 4, 5, 6, 7, 8, 9, 10, 11, 12], [12])])
def rplays20B : List Nat := [0, 0, 2, 0, 8, 31, 0, 0, 128, 0, 512, 2047, 4095, 8191]
theorem rplays20tab : rtab .any (opsOf Try.f7 20) = rplays20T := by kernel_rfl
theorem rplays20bits : waitsOk rplays20T.2 rplays20B = true := by kernel_rfl
def rplays26T : Bool × List (List Nat × List Nat) := (true, [([], []), ([], []), ([1], [1]), ([0, 2], [0, 2]), ([], []), ([], []), ([5], [5]), ([4, 6, 3], [4, 6]), ([3, 7], [3, 7]), ([8, 7, 0, 1, 2, 3, 4, 5, 6, 7, 8], [8])])
def rplays26B : List Nat := [0, 0, 2, 7, 0, 0, 32, 127, 255, 511]
theorem rplays26tab : rtab .any (opsOf Try.f7 26) = rplays26T := by kernel_rfl
theorem rplays26bits : waitsOk rplays26T.2 rplays26B = true := by kernel_rfl
def rplays32T : Bool × List (List Nat × List Nat) := (true, [([], []), ([0], [0]), ([1], [1]), ([2], [2]), ([3, 2, 2], [2, 3]), ([2], [2]), ([5, 2], [2, 5]), ([6, 2], [2, 6]), ([7, 2], [2, 7]), ([4, 8, 2], [2, 4, 8]), ([2, 9], [2, 9])])
def rplays32B : List Nat := [0, 1, 3, 7, 15, 7, 39, 103, 231, 511, 1023]
theorem rplays32tab : rtab .any (opsOf Try.f7 32) = rplays32T := by kernel_rfl
theorem rplays32bits : waitsOk rplays32T.2 rplays32B = true := by kernel_rfl
set_option maxHeartbeats 12800000 in
set_option maxRecDepth 100000 in
theorem plays07_walk (A1 : Option Addr) (n c1 : Nat) (ops : Nat → OpM) (w : World) (hc : OpsM w A1 n ops) (hs : ∀ i, i < n → (ops i).f3.length * 8 ≤ 140737488351232) (hn : n ≤ c1) :
    Calls Try.prog 7 #[.slice A1 n c1] w fun e w' => e = .returned (.bool true) ∧ Below w.heap.size w w' := by
  have HC := Aside0.mk hc
  have HS := Aside0.mk hs
  clear hc hs
  go_enter Try.func7, Try.ntmps7
  go_wp2_with fail
  refine (awake07.calls _).mono ?_
  rintro e w1 ⟨rfl, b1⟩
  go_wp2_with fail
  refine (remote_New.calls _).mono ?_
  rintro e w2 ⟨d, rfl, h2, b2⟩
  have T3 := Aside0.mk (show Two w.heap.size (w2.alloc (.cells #[.slice none 0 0, .slice none 0 0, .int .i64 0] 61)) d w2.heap.size ⟨[], [], 0⟩ from
    ⟨fun i => w1.heap.size ≤ i ∧ i < w2.heap.size, fun i => i = w2.heap.size, h2.bound.alloc _, ⟨rfl, fun k hk => by rw [hk]; simp, _, _, blk_new _ _, (by rw [show refL ({ m := [], s := [], n := 0 } : Rem).m = [] from by simp [refL, names, sorted]]; exact Kd.R_nil _ _ _ _ _), Kd.Q_nil _ _ _ _ _⟩, fun i hi e => by omega, fun i hi => ⟨by have := b1.size; omega, by simp; omega⟩, fun i hi => by have := b1.size; have := b2.size; omega⟩)
  have B3 := Aside0.mk ((b1.trans (b2.mono b1.size)).alloc (by have := b1.size; have := b2.size; omega) (.cells #[.slice none 0 0, .slice none 0 0, .int .i64 0] 61))
  clear h2 b1 b2
  obtain ⟨g, hg⟩ : ∃ g, w2.heap.size = g := ⟨_, rfl⟩
  rw [hg] at T3
  go_wp2_with fail
  try rw [hg]
  clear hg
  go_loopw [6] (fun v6 wr => ∃ (k : Nat) (st : Rem), k ≤ n ∧ k ≤ 120 ∧ v6 = .int .i64 k ∧ Aside0 (st.m.length ≤ k) ∧ Aside0 (Two w.heap.size wr d g st) ∧ Aside0 (Below w.heap.size w wr)) (fun v6 _ => n - (intOf v6).toNat)
  case atStart => exact ⟨0, _, Nat.zero_le _, Nat.zero_le _, rfl, ⟨Nat.le_refl _⟩, T3, B3⟩
  case round =>
    obtain ⟨k, st, hk, hk120, rfl, HI, HT, HB⟩ := hrel
    by_cases hkn : k < n
    case neg =>
      have dkn : decide ((k : Int) < (n : Int)) = false := decide_eq_false (by omega)
      go_wp2_with fail
      go_ret
      exact ⟨rfl, HB.out⟩
    have dkn : decide ((k : Int) < (n : Int)) = true := decide_eq_true (by omega)
    by_cases hk8 : k < 120
    case neg =>
      have dk8 : decide ((k : Int) < 120) = false := decide_eq_false (by omega)
      go_wp2_with fail
      go_ret
      exact ⟨rfl, HB.out⟩
    have dk8 : decide ((k : Int) < 120) = true := decide_eq_true (by omega)
    obtain ⟨ad, A5, c5, rfl, q0, q1, q2, q3, hc5, hC5⟩ := HC.out k hkn
    have HZ := Aside0.mk (HS.out k hkn)
    generalize ops k = o at q0 q1 q2 q3 hc5 hC5 HZ
    obtain ⟨x0, x1, x2, sc⟩ := o
    simp only at q0 q1 q2 q3 hc5 hC5
    replace q0 := pw_cell_below HB.out q0
    replace q1 := pw_cell_below HB.out q1
    replace q2 := pw_cell_below HB.out q2
    replace q3 := pw_cell_below HB.out q3
    have HC5 := Aside0.mk hC5
    have k0 : 0 ≤ (k : Int) := by omega
    clear hC5
    by_cases g100 : 100 < x1.size
    · have d100 : decide ((100 : Int) < (x1.size : Int)) = true := decide_eq_true (by omega)
      go_wp2_with fail
      go_ret
      exact ⟨rfl, HB.out.alloc HB.out.size _⟩
    have d100 : decide ((100 : Int) < (x1.size : Int)) = false := decide_eq_false (by omega)
    by_cases g500 : 500 < x2.size
    · have d500 : decide ((500 : Int) < (x2.size : Int)) = true := decide_eq_true (by omega)
      go_wp2_with fail
      go_ret
      exact ⟨rfl, HB.out.alloc HB.out.size _⟩
    have d500 : decide ((500 : Int) < (x2.size : Int)) = false := decide_eq_false (by omega)
    have Y1 := Aside0.mk (show x1.size ≤ 140737488351232 by omega)
    obtain ⟨TD, TR, hD, hR, hdis, hTD, hTR⟩ := HT.out
    have NDP := Aside0.mk hD.nodup
    have hD := Aside0.mk hD
    have hR := Aside0.mk hR
    have hO := Aside0.mk hR.out.old
    have hdis := Aside0.mk hdis
    have hTD := Aside0.mk hTD
    have hTR := Aside0.mk hTR
    have HI1 := Aside0.mk (show st.m.length ≤ 100000 by have := HI.out; omega)
    go_upto_block 2 with (fail)
    go_cut [8, 9, 10, 11, 12, 13, 14, 15, 16, 17] from 51 to 148 (fun s8 s9 s10 s11 s12 s13 s14 s15 s16 s17 wx => s8 = .bool true ∧ Aside0 (PlayCut w.heap.size d g k w wx))
    case first =>
      rcases Bool.eq_false_or_eq_true (x0 == 0) with z0 | z0
      · as_aux_lemma =>
        go_wp2_with fail
        have hbD : ¬ TD wr.heap.size := fun x => by have := (hTD.out _ x).2; omega
        have hbR : ¬ TR wr.heap.size := fun x => by have := hO.out _ x; omega
        refine region_draw (n := 14) (S := fun W => W.heap[wr.heap.size]? = some (.cells #[.int .i64 x0, .string x1, .string x2, .slice A5 sc.length c5] 63)) (ds := []) #[false, false, false, false, false, false, false, false, false, false, false, false, false, false] (by kernel_rfl) rfl rfl (fun W => W.heap[wr.heap.size]? = some (.cells #[.int .i64 x0, .string x1, .string x2, .slice A5 sc.length c5] 63) ∧ RemAt W TD d st ∧ RfR W TR g (refL st.m) st.s st.n ∧ Below w.heap.size w W ∧ wr.heap.size ≤ W.heap.size) ⟨blk_drew (blk_new _ _), (hD.out.alloc _).frm (S := None') (Frm.refl _ _).drew (fun _ _ x => x), hR.out.frm (S := None') (((Frm.refl _ _).alloc _).drew) (fun _ _ _ x => x), (HB.out.alloc HB.out.size _).drew, by simp [World.drew]⟩ (fun W h => h.1) ?_
        rintro w4 ⟨k4, hD4, hR4, b4, hsz4⟩
        refine with_tabW rplays18tab rplays18bits (fun HT_ HW_ => ?_)
        clear q0 q1 q2 q3
        have K4 := Aside0.mk k4
        have hD4 := Aside0.mk hD4
        have hR4 := Aside0.mk hR4
        have B4 := Aside0.mk b4
        have HSZ := Aside0.mk hsz4
        clear k4 b4 hsz4
        refine pure_ (i := 0) (N := some 65) (v := ?_) (a' := ?_) #[true, false, false, false, false, false, false, false, false, false, false, false, false, false] rfl rfl (any_of HT_.out (by kernel_rfl)) (fun _ _ _ h => h) (Or.inl ⟨by rfl, ?_⟩) ?_ ?_
        rotate_left
        · intro w'
          go_simp
          with_reducible rfl
        rotate_left
        · simp only [Act.put, List.setIfInBounds_toArray, List.set_cons_zero, List.set_cons_succ, i64_w, i32_w]
          rfl
        refine pure_ (i := 1) (N := some 66) (v := ?_) (a' := ?_) #[true, true, false, false, false, false, false, false, false, false, false, false, false, false] rfl rfl (any_of HT_.out (by kernel_rfl)) (fun _ _ _ h => h) (Or.inl ⟨by rfl, ?_⟩) ?_ ?_
        rotate_left
        · intro w'
          go_simp
          with_reducible rfl
        rotate_left
        · simp only [Act.put, List.setIfInBounds_toArray, List.set_cons_zero, List.set_cons_succ, i64_w, i32_w]
          rfl
        refine pure_ (i := 3) (N := some 68) (v := ?_) (a' := ?_) #[true, true, false, true, false, false, false, false, false, false, false, false, false, false] rfl rfl (any_of HT_.out (by kernel_rfl)) (fun _ _ _ h => h) (Or.inl ⟨by rfl, ?_⟩) ?_ ?_
        rotate_left
        · intro w'
          go_simp
          with_reducible rfl
        rotate_left
        · simp only [Act.put, List.setIfInBounds_toArray, List.set_cons_zero, List.set_cons_succ, i64_w, i32_w]
          rfl
        refine pure_ (i := 6) (N := some 71) (v := ?_) (a' := ?_) #[true, true, false, true, false, false, true, false, false, false, false, false, false, false] rfl rfl (any_of HT_.out (by kernel_rfl)) (fun _ _ _ h => h) (Or.inl ⟨by rfl, ?_⟩) ?_ ?_
        rotate_left
        · intro w'
          go_simp
          with_reducible rfl
        rotate_left
        · simp only [Act.put, List.setIfInBounds_toArray, List.set_cons_zero, List.set_cons_succ, i64_w, i32_w]
          rfl
        refine pure_ (i := 7) (N := some 72) (v := ?_) (a' := ?_) #[true, true, false, true, false, false, true, true, false, false, false, false, false, false] rfl rfl (any_of HT_.out (by kernel_rfl)) (fun _ _ _ h => h) (Or.inl ⟨by rfl, ?_⟩) ?_ ?_
        rotate_left
        · intro w'
          go_simp
          with_reducible rfl
        rotate_left
        · simp only [Act.put, List.setIfInBounds_toArray, List.set_cons_zero, List.set_cons_succ, i64_w, i32_w]
          rfl
        refine pure_ (i := 9) (N := some 74) (v := ?_) (a' := ?_) #[true, true, false, true, false, false, true, true, false, true, false, false, false, false] rfl rfl (any_of HT_.out (by kernel_rfl)) (fun _ _ _ h => h) (Or.inl ⟨by rfl, ?_⟩) ?_ ?_
        rotate_left
        · intro w'
          go_simp
          with_reducible rfl
        rotate_left
        · simp only [Act.put, List.setIfInBounds_toArray, List.set_cons_zero, List.set_cons_succ, i64_w, i32_w]
          rfl
        refine take_ (i := 2) (N := some 67) (v := ?_) (a' := ?_) #[true, true, true, true, false, false, true, true, false, true, false, false, false, false] rfl rfl (take_ofW HT_.out HW_.out (by kernel_rfl)) (fun _ _ _ h => h) (Or.inl ⟨by rfl, ?_⟩) K4.out ?_ ?_
        rotate_left
        · intro w' hW
          obtain ⟨e0, e1, e2, e3, fr⟩ := cells4o hW
          go_simp
          with_reducible rfl
        rotate_left
        · simp only [Act.put, List.setIfInBounds_toArray, List.set_cons_zero, List.set_cons_succ, i64_w, i32_w]
          rfl
        refine take_ (i := 4) (N := some 69) (v := ?_) (a' := ?_) #[true, true, true, true, true, false, true, true, false, true, false, false, false, false] rfl rfl (take_ofW HT_.out HW_.out (by kernel_rfl)) (fun _ _ _ h => h) (Or.inl ⟨by rfl, ?_⟩) K4.out ?_ ?_
        rotate_left
        · intro w' hW
          obtain ⟨e0, e1, e2, e3, fr⟩ := cells4o hW
          go_simp
          with_reducible rfl
        rotate_left
        · simp only [Act.put, List.setIfInBounds_toArray, List.set_cons_zero, List.set_cons_succ, i64_w, i32_w]
          rfl
        refine take_ (i := 8) (N := some 73) (v := ?_) (a' := ?_) #[true, true, true, true, true, false, true, true, true, true, false, false, false, false] rfl rfl (take_ofW HT_.out HW_.out (by kernel_rfl)) (fun _ _ _ h => h) (Or.inl ⟨by rfl, ?_⟩) K4.out ?_ ?_
        rotate_left
        · intro w' hW
          obtain ⟨e0, e1, e2, e3, fr⟩ := cells4o hW
          go_simp
          with_reducible rfl
        rotate_left
        · simp only [Act.put, List.setIfInBounds_toArray, List.set_cons_zero, List.set_cons_succ, i64_w, i32_w]
          rfl
        refine take_ (i := 10) (N := some 75) (v := ?_) (a' := ?_) #[true, true, true, true, true, false, true, true, true, true, true, false, false, false] rfl rfl (take_ofW HT_.out HW_.out (by kernel_rfl)) (fun _ _ _ h => h) (Or.inl ⟨by rfl, ?_⟩) K4.out ?_ ?_
        rotate_left
        · intro w' hW
          obtain ⟨e0, e1, e2, e3, fr⟩ := cells4o hW
          go_simp
          with_reducible rfl
        rotate_left
        · simp only [Act.put, List.setIfInBounds_toArray, List.set_cons_zero, List.set_cons_succ, i64_w, i32_w]
          rfl
        refine one_ (i := 5) (N := some 70) #[true, true, true, true, true, true, true, true, true, true, true, false, false, false] rfl rfl (one_of HT_.out (by kernel_rfl)) (by decide) (fun K hK => ?_)
        refine goes_ Try.func11 (by kernel_rfl) rfl #[.pointer (some ⟨d, 0, none⟩), .string x1, .string x2] (by rfl) rfl rfl (by (try simp only [List.map_toArray, List.map_cons, List.map_nil]); first | done | rfl) ?_
        refine (remote_Put.calls w4 TD d st hD4.out x1 x2 Y1.out).mono ?_
        rintro e w5 ⟨rfl, hD5, fD⟩
        refine ⟨_, rfl, ?_⟩
        have K5 := Aside0.mk (fD.keeps K4.out hbD)
        have hR5 := Aside0.mk (hR4.out.frm fD (fun k _ h1 h2 => hdis.out k h2 h1))
        have hD5 := Aside0.mk hD5
        have fD := Aside0.mk fD
        clear K4
        refine hK.out _ _ K5.out (fun _ => ?_)
        clear hK K
        refine norm_ (a' := ?_) ?_ ?_
        rotate_left
        · show Act.put _ (some 70) _ = _
          simp only [Act.put, List.setIfInBounds_toArray, List.set_cons_zero, List.set_cons_succ, i64_w, i32_w]
          rfl
        refine one_ (i := 11) (N := some 76) #[true, true, true, true, true, true, true, true, true, true, true, true, false, false] rfl rfl (one_of HT_.out (by kernel_rfl)) (by decide) (fun K hK => ?_)
        refine goes_ Try.func26 (by kernel_rfl) rfl #[.pointer (some ⟨g, 0, none⟩), .string x1, .string x2] (by rfl) rfl rfl (by (try simp only [List.map_toArray, List.map_cons, List.map_nil]); first | done | rfl) ?_
        refine (rf_Put w5 TR g st hR5.out HI1.out NDP.out x1 x2).mono ?_
        rintro e w6 ⟨rfl, hR6, fR⟩
        refine ⟨_, rfl, ?_⟩
        have K6 := Aside0.mk (fR.keeps K5.out hbR)
        have hR6 := Aside0.mk hR6
        have fR := Aside0.mk fR
        have T6 := Aside0.mk (Two.close hdis.out (fun i hi => ⟨(hTD.out i hi).1, Nat.lt_of_lt_of_le (hTD.out i hi).2 HSZ.out⟩) hTR.out (fun i hi => Nat.lt_of_lt_of_le (hO.out i hi) HSZ.out) B4.out.size hD5.out fD.out hR6.out fR.out)
        have B6 := Aside0.mk ((B4.out.trans (fD.out.below B4.out.size (fun i _ hi => (hTD.out i hi).1))).trans (fR.out.below (Nat.le_trans B4.out.size fD.out.size) (fun i _ hi => hTR.out i hi)))
        clear K5 hR6 fR hD5 hR5 fD hD4 hR4 hbD hbR
        refine hK.out _ _ K6.out (fun _ => ?_)
        clear hK K
        refine norm_ (a' := ?_) ?_ ?_
        rotate_left
        · show Act.put _ (some 76) _ = _
          simp only [Act.put, List.setIfInBounds_toArray, List.set_cons_zero, List.set_cons_succ, i64_w, i32_w]
          rfl
        refine pure_ (i := 12) (N := some 77) (v := ?_) (a' := ?_) #[true, true, true, true, true, true, true, true, true, true, true, true, true, false] rfl rfl (any_of HT_.out (by kernel_rfl)) (fun _ _ _ h => h) (Or.inl ⟨by rfl, ?_⟩) ?_ ?_
        rotate_left
        · intro w'
          go_simp
          with_reducible rfl
        rotate_left
        · simp only [Act.put, List.setIfInBounds_toArray, List.set_cons_zero, List.set_cons_succ, i64_w, i32_w]
          rfl
        refine pure_ (i := 13) (N := some 8) (v := ?_) (a' := ?_) #[true, true, true, true, true, true, true, true, true, true, true, true, true, true] rfl rfl (any_of HT_.out (by kernel_rfl)) (fun _ _ _ h => h) (Or.inl ⟨by rfl, ?_⟩) ?_ ?_
        rotate_left
        · intro w'
          go_simp
          with_reducible rfl
        rotate_left
        · simp only [Act.put, List.setIfInBounds_toArray, List.set_cons_zero, List.set_cons_succ, i64_w, i32_w]
          rfl
        refine done_ (done_of HT_.out (by kernel_rfl)) ?_
        go_wp2_with fail
        go_meet
        case rel => exact ⟨by first | rfl | simp, ⟨_, T6.out, by have := HI.out; have := st.put_len x1 x2; omega, B6.out⟩⟩
      rcases Bool.eq_false_or_eq_true (x0 == 1) with z1 | z1
      · as_aux_lemma =>
        go_wp2_with fail
        have hbD : ¬ TD wr.heap.size := fun x => by have := (hTD.out _ x).2; omega
        have hbR : ¬ TR wr.heap.size := fun x => by have := hO.out _ x; omega
        refine region_draw (n := 14) (S := fun W => W.heap[wr.heap.size]? = some (.cells #[.int .i64 x0, .string x1, .string x2, .slice A5 sc.length c5] 63)) (ds := []) #[false, false, false, false, false, false, false, false, false, false, false, false, false, false] (by kernel_rfl) rfl rfl (fun W => W.heap[wr.heap.size]? = some (.cells #[.int .i64 x0, .string x1, .string x2, .slice A5 sc.length c5] 63) ∧ RemAt W TD d st ∧ RfR W TR g (refL st.m) st.s st.n ∧ Below w.heap.size w W ∧ wr.heap.size ≤ W.heap.size) ⟨blk_drew (blk_new _ _), (hD.out.alloc _).frm (S := None') (Frm.refl _ _).drew (fun _ _ x => x), hR.out.frm (S := None') (((Frm.refl _ _).alloc _).drew) (fun _ _ _ x => x), (HB.out.alloc HB.out.size _).drew, by simp [World.drew]⟩ (fun W h => h.1) ?_
        rintro w4 ⟨k4, hD4, hR4, b4, hsz4⟩
        refine with_tabW rplays18tab rplays18bits (fun HT_ HW_ => ?_)
        clear q0 q1 q2 q3
        have K4 := Aside0.mk k4
        have hD4 := Aside0.mk hD4
        have hR4 := Aside0.mk hR4
        have B4 := Aside0.mk b4
        have HSZ := Aside0.mk hsz4
        clear k4 b4 hsz4
        refine pure_ (i := 0) (N := some 65) (v := ?_) (a' := ?_) #[true, false, false, false, false, false, false, false, false, false, false, false, false, false] rfl rfl (any_of HT_.out (by kernel_rfl)) (fun _ _ _ h => h) (Or.inl ⟨by rfl, ?_⟩) ?_ ?_
        rotate_left
        · intro w'
          go_simp
          with_reducible rfl
        rotate_left
        · simp only [Act.put, List.setIfInBounds_toArray, List.set_cons_zero, List.set_cons_succ, i64_w, i32_w]
          rfl
        refine pure_ (i := 1) (N := some 66) (v := ?_) (a' := ?_) #[true, true, false, false, false, false, false, false, false, false, false, false, false, false] rfl rfl (any_of HT_.out (by kernel_rfl)) (fun _ _ _ h => h) (Or.inl ⟨by rfl, ?_⟩) ?_ ?_
        rotate_left
        · intro w'
          go_simp
          with_reducible rfl
        rotate_left
        · simp only [Act.put, List.setIfInBounds_toArray, List.set_cons_zero, List.set_cons_succ, i64_w, i32_w]
          rfl
        refine pure_ (i := 3) (N := some 68) (v := ?_) (a' := ?_) #[true, true, false, true, false, false, false, false, false, false, false, false, false, false] rfl rfl (any_of HT_.out (by kernel_rfl)) (fun _ _ _ h => h) (Or.inl ⟨by rfl, ?_⟩) ?_ ?_
        rotate_left
        · intro w'
          go_simp
          with_reducible rfl
        rotate_left
        · simp only [Act.put, List.setIfInBounds_toArray, List.set_cons_zero, List.set_cons_succ, i64_w, i32_w]
          rfl
        refine pure_ (i := 6) (N := some 71) (v := ?_) (a' := ?_) #[true, true, false, true, false, false, true, false, false, false, false, false, false, false] rfl rfl (any_of HT_.out (by kernel_rfl)) (fun _ _ _ h => h) (Or.inl ⟨by rfl, ?_⟩) ?_ ?_
        rotate_left
        · intro w'
          go_simp
          with_reducible rfl
        rotate_left
        · simp only [Act.put, List.setIfInBounds_toArray, List.set_cons_zero, List.set_cons_succ, i64_w, i32_w]
          rfl
        refine pure_ (i := 7) (N := some 72) (v := ?_) (a' := ?_) #[true, true, false, true, false, false, true, true, false, false, false, false, false, false] rfl rfl (any_of HT_.out (by kernel_rfl)) (fun _ _ _ h => h) (Or.inl ⟨by rfl, ?_⟩) ?_ ?_
        rotate_left
        · intro w'
          go_simp
          with_reducible rfl
        rotate_left
        · simp only [Act.put, List.setIfInBounds_toArray, List.set_cons_zero, List.set_cons_succ, i64_w, i32_w]
          rfl
        refine pure_ (i := 9) (N := some 74) (v := ?_) (a' := ?_) #[true, true, false, true, false, false, true, true, false, true, false, false, false, false] rfl rfl (any_of HT_.out (by kernel_rfl)) (fun _ _ _ h => h) (Or.inl ⟨by rfl, ?_⟩) ?_ ?_
        rotate_left
        · intro w'
          go_simp
          with_reducible rfl
        rotate_left
        · simp only [Act.put, List.setIfInBounds_toArray, List.set_cons_zero, List.set_cons_succ, i64_w, i32_w]
          rfl
        refine take_ (i := 2) (N := some 67) (v := ?_) (a' := ?_) #[true, true, true, true, false, false, true, true, false, true, false, false, false, false] rfl rfl (take_ofW HT_.out HW_.out (by kernel_rfl)) (fun _ _ _ h => h) (Or.inl ⟨by rfl, ?_⟩) K4.out ?_ ?_
        rotate_left
        · intro w' hW
          obtain ⟨e0, e1, e2, e3, fr⟩ := cells4o hW
          go_simp
          with_reducible rfl
        rotate_left
        · simp only [Act.put, List.setIfInBounds_toArray, List.set_cons_zero, List.set_cons_succ, i64_w, i32_w]
          rfl
        refine take_ (i := 4) (N := some 69) (v := ?_) (a' := ?_) #[true, true, true, true, true, false, true, true, false, true, false, false, false, false] rfl rfl (take_ofW HT_.out HW_.out (by kernel_rfl)) (fun _ _ _ h => h) (Or.inl ⟨by rfl, ?_⟩) K4.out ?_ ?_
        rotate_left
        · intro w' hW
          obtain ⟨e0, e1, e2, e3, fr⟩ := cells4o hW
          go_simp
          with_reducible rfl
        rotate_left
        · simp only [Act.put, List.setIfInBounds_toArray, List.set_cons_zero, List.set_cons_succ, i64_w, i32_w]
          rfl
        refine take_ (i := 8) (N := some 73) (v := ?_) (a' := ?_) #[true, true, true, true, true, false, true, true, true, true, false, false, false, false] rfl rfl (take_ofW HT_.out HW_.out (by kernel_rfl)) (fun _ _ _ h => h) (Or.inl ⟨by rfl, ?_⟩) K4.out ?_ ?_
        rotate_left
        · intro w' hW
          obtain ⟨e0, e1, e2, e3, fr⟩ := cells4o hW
          go_simp
          with_reducible rfl
        rotate_left
        · simp only [Act.put, List.setIfInBounds_toArray, List.set_cons_zero, List.set_cons_succ, i64_w, i32_w]
          rfl
        refine take_ (i := 10) (N := some 75) (v := ?_) (a' := ?_) #[true, true, true, true, true, false, true, true, true, true, true, false, false, false] rfl rfl (take_ofW HT_.out HW_.out (by kernel_rfl)) (fun _ _ _ h => h) (Or.inl ⟨by rfl, ?_⟩) K4.out ?_ ?_
        rotate_left
        · intro w' hW
          obtain ⟨e0, e1, e2, e3, fr⟩ := cells4o hW
          go_simp
          with_reducible rfl
        rotate_left
        · simp only [Act.put, List.setIfInBounds_toArray, List.set_cons_zero, List.set_cons_succ, i64_w, i32_w]
          rfl
        refine one_ (i := 5) (N := some 70) #[true, true, true, true, true, true, true, true, true, true, true, false, false, false] rfl rfl (one_of HT_.out (by kernel_rfl)) (by decide) (fun K hK => ?_)
        refine goes_ Try.func11 (by kernel_rfl) rfl #[.pointer (some ⟨d, 0, none⟩), .string x1, .string x2] (by rfl) rfl rfl (by (try simp only [List.map_toArray, List.map_cons, List.map_nil]); first | done | rfl) ?_
        refine (remote_Put.calls w4 TD d st hD4.out x1 x2 Y1.out).mono ?_
        rintro e w5 ⟨rfl, hD5, fD⟩
        refine ⟨_, rfl, ?_⟩
        have K5 := Aside0.mk (fD.keeps K4.out hbD)
        have hR5 := Aside0.mk (hR4.out.frm fD (fun k _ h1 h2 => hdis.out k h2 h1))
        have hD5 := Aside0.mk hD5
        have fD := Aside0.mk fD
        clear K4
        refine hK.out _ _ K5.out (fun _ => ?_)
        clear hK K
        refine norm_ (a' := ?_) ?_ ?_
        rotate_left
        · show Act.put _ (some 70) _ = _
          simp only [Act.put, List.setIfInBounds_toArray, List.set_cons_zero, List.set_cons_succ, i64_w, i32_w]
          rfl
        refine one_ (i := 11) (N := some 76) #[true, true, true, true, true, true, true, true, true, true, true, true, false, false] rfl rfl (one_of HT_.out (by kernel_rfl)) (by decide) (fun K hK => ?_)
        refine goes_ Try.func26 (by kernel_rfl) rfl #[.pointer (some ⟨g, 0, none⟩), .string x1, .string x2] (by rfl) rfl rfl (by (try simp only [List.map_toArray, List.map_cons, List.map_nil]); first | done | rfl) ?_
        refine (rf_Put w5 TR g st hR5.out HI1.out NDP.out x1 x2).mono ?_
        rintro e w6 ⟨rfl, hR6, fR⟩
        refine ⟨_, rfl, ?_⟩
        have K6 := Aside0.mk (fR.keeps K5.out hbR)
        have hR6 := Aside0.mk hR6
        have fR := Aside0.mk fR
        have T6 := Aside0.mk (Two.close hdis.out (fun i hi => ⟨(hTD.out i hi).1, Nat.lt_of_lt_of_le (hTD.out i hi).2 HSZ.out⟩) hTR.out (fun i hi => Nat.lt_of_lt_of_le (hO.out i hi) HSZ.out) B4.out.size hD5.out fD.out hR6.out fR.out)
        have B6 := Aside0.mk ((B4.out.trans (fD.out.below B4.out.size (fun i _ hi => (hTD.out i hi).1))).trans (fR.out.below (Nat.le_trans B4.out.size fD.out.size) (fun i _ hi => hTR.out i hi)))
        clear K5 hR6 fR hD5 hR5 fD hD4 hR4 hbD hbR
        refine hK.out _ _ K6.out (fun _ => ?_)
        clear hK K
        refine norm_ (a' := ?_) ?_ ?_
        rotate_left
        · show Act.put _ (some 76) _ = _
          simp only [Act.put, List.setIfInBounds_toArray, List.set_cons_zero, List.set_cons_succ, i64_w, i32_w]
          rfl
        refine pure_ (i := 12) (N := some 77) (v := ?_) (a' := ?_) #[true, true, true, true, true, true, true, true, true, true, true, true, true, false] rfl rfl (any_of HT_.out (by kernel_rfl)) (fun _ _ _ h => h) (Or.inl ⟨by rfl, ?_⟩) ?_ ?_
        rotate_left
        · intro w'
          go_simp
          with_reducible rfl
        rotate_left
        · simp only [Act.put, List.setIfInBounds_toArray, List.set_cons_zero, List.set_cons_succ, i64_w, i32_w]
          rfl
        refine pure_ (i := 13) (N := some 8) (v := ?_) (a' := ?_) #[true, true, true, true, true, true, true, true, true, true, true, true, true, true] rfl rfl (any_of HT_.out (by kernel_rfl)) (fun _ _ _ h => h) (Or.inl ⟨by rfl, ?_⟩) ?_ ?_
        rotate_left
        · intro w'
          go_simp
          with_reducible rfl
        rotate_left
        · simp only [Act.put, List.setIfInBounds_toArray, List.set_cons_zero, List.set_cons_succ, i64_w, i32_w]
          rfl
        refine done_ (done_of HT_.out (by kernel_rfl)) ?_
        go_wp2_with fail
        go_meet
        case rel => exact ⟨by first | rfl | simp, ⟨_, T6.out, by have := HI.out; have := st.put_len x1 x2; omega, B6.out⟩⟩
      rcases Bool.eq_false_or_eq_true (x0 == 2) with z2 | z2
      · as_aux_lemma =>
        go_wp2_with fail
        have hbD : ¬ TD wr.heap.size := fun x => by have := (hTD.out _ x).2; omega
        have hbR : ¬ TR wr.heap.size := fun x => by have := hO.out _ x; omega
        refine region_draw (n := 14) (S := fun W => W.heap[wr.heap.size]? = some (.cells #[.int .i64 x0, .string x1, .string x2, .slice A5 sc.length c5] 63)) (ds := []) #[false, false, false, false, false, false, false, false, false, false, false, false, false, false] (by kernel_rfl) rfl rfl (fun W => W.heap[wr.heap.size]? = some (.cells #[.int .i64 x0, .string x1, .string x2, .slice A5 sc.length c5] 63) ∧ RemAt W TD d st ∧ RfR W TR g (refL st.m) st.s st.n ∧ Below w.heap.size w W ∧ wr.heap.size ≤ W.heap.size) ⟨blk_drew (blk_new _ _), (hD.out.alloc _).frm (S := None') (Frm.refl _ _).drew (fun _ _ x => x), hR.out.frm (S := None') (((Frm.refl _ _).alloc _).drew) (fun _ _ _ x => x), (HB.out.alloc HB.out.size _).drew, by simp [World.drew]⟩ (fun W h => h.1) ?_
        rintro w4 ⟨k4, hD4, hR4, b4, hsz4⟩
        refine with_tabW rplays20tab rplays20bits (fun HT_ HW_ => ?_)
        clear q0 q1 q2 q3
        have K4 := Aside0.mk k4
        have hD4 := Aside0.mk hD4
        have hR4 := Aside0.mk hR4
        have B4 := Aside0.mk b4
        have HSZ := Aside0.mk hsz4
        clear k4 b4 hsz4
        refine pure_ (i := 0) (N := some 80) (v := ?_) (a' := ?_) #[true, false, false, false, false, false, false, false, false, false, false, false, false, false] rfl rfl (any_of HT_.out (by kernel_rfl)) (fun _ _ _ h => h) (Or.inl ⟨by rfl, ?_⟩) ?_ ?_
        rotate_left
        · intro w'
          go_simp
          with_reducible rfl
        rotate_left
        · simp only [Act.put, List.setIfInBounds_toArray, List.set_cons_zero, List.set_cons_succ, i64_w, i32_w]
          rfl
        refine pure_ (i := 1) (N := some 81) (v := ?_) (a' := ?_) #[true, true, false, false, false, false, false, false, false, false, false, false, false, false] rfl rfl (any_of HT_.out (by kernel_rfl)) (fun _ _ _ h => h) (Or.inl ⟨by rfl, ?_⟩) ?_ ?_
        rotate_left
        · intro w'
          go_simp
          with_reducible rfl
        rotate_left
        · simp only [Act.put, List.setIfInBounds_toArray, List.set_cons_zero, List.set_cons_succ, i64_w, i32_w]
          rfl
        refine pure_ (i := 3) (N := some 83) (v := ?_) (a' := ?_) #[true, true, false, true, false, false, false, false, false, false, false, false, false, false] rfl rfl (any_of HT_.out (by kernel_rfl)) (fun _ _ _ h => h) (Or.inl ⟨by rfl, ?_⟩) ?_ ?_
        rotate_left
        · intro w'
          go_simp
          with_reducible rfl
        rotate_left
        · simp only [Act.put, List.setIfInBounds_toArray, List.set_cons_zero, List.set_cons_succ, i64_w, i32_w]
          rfl
        refine pure_ (i := 6) (N := some 86) (v := ?_) (a' := ?_) #[true, true, false, true, false, false, true, false, false, false, false, false, false, false] rfl rfl (any_of HT_.out (by kernel_rfl)) (fun _ _ _ h => h) (Or.inl ⟨by rfl, ?_⟩) ?_ ?_
        rotate_left
        · intro w'
          go_simp
          with_reducible rfl
        rotate_left
        · simp only [Act.put, List.setIfInBounds_toArray, List.set_cons_zero, List.set_cons_succ, i64_w, i32_w]
          rfl
        refine pure_ (i := 7) (N := some 87) (v := ?_) (a' := ?_) #[true, true, false, true, false, false, true, true, false, false, false, false, false, false] rfl rfl (any_of HT_.out (by kernel_rfl)) (fun _ _ _ h => h) (Or.inl ⟨by rfl, ?_⟩) ?_ ?_
        rotate_left
        · intro w'
          go_simp
          with_reducible rfl
        rotate_left
        · simp only [Act.put, List.setIfInBounds_toArray, List.set_cons_zero, List.set_cons_succ, i64_w, i32_w]
          rfl
        refine pure_ (i := 9) (N := some 89) (v := ?_) (a' := ?_) #[true, true, false, true, false, false, true, true, false, true, false, false, false, false] rfl rfl (any_of HT_.out (by kernel_rfl)) (fun _ _ _ h => h) (Or.inl ⟨by rfl, ?_⟩) ?_ ?_
        rotate_left
        · intro w'
          go_simp
          with_reducible rfl
        rotate_left
        · simp only [Act.put, List.setIfInBounds_toArray, List.set_cons_zero, List.set_cons_succ, i64_w, i32_w]
          rfl
        refine take_ (i := 2) (N := some 82) (v := ?_) (a' := ?_) #[true, true, true, true, false, false, true, true, false, true, false, false, false, false] rfl rfl (take_ofW HT_.out HW_.out (by kernel_rfl)) (fun _ _ _ h => h) (Or.inl ⟨by rfl, ?_⟩) K4.out ?_ ?_
        rotate_left
        · intro w' hW
          obtain ⟨e0, e1, e2, e3, fr⟩ := cells4o hW
          go_simp
          with_reducible rfl
        rotate_left
        · simp only [Act.put, List.setIfInBounds_toArray, List.set_cons_zero, List.set_cons_succ, i64_w, i32_w]
          rfl
        refine take_ (i := 4) (N := some 84) (v := ?_) (a' := ?_) #[true, true, true, true, true, false, true, true, false, true, false, false, false, false] rfl rfl (take_ofW HT_.out HW_.out (by kernel_rfl)) (fun _ _ _ h => h) (Or.inl ⟨by rfl, ?_⟩) K4.out ?_ ?_
        rotate_left
        · intro w' hW
          obtain ⟨e0, e1, e2, e3, fr⟩ := cells4o hW
          go_simp
          with_reducible rfl
        rotate_left
        · simp only [Act.put, List.setIfInBounds_toArray, List.set_cons_zero, List.set_cons_succ, i64_w, i32_w]
          rfl
        refine take_ (i := 8) (N := some 88) (v := ?_) (a' := ?_) #[true, true, true, true, true, false, true, true, true, true, false, false, false, false] rfl rfl (take_ofW HT_.out HW_.out (by kernel_rfl)) (fun _ _ _ h => h) (Or.inl ⟨by rfl, ?_⟩) K4.out ?_ ?_
        rotate_left
        · intro w' hW
          obtain ⟨e0, e1, e2, e3, fr⟩ := cells4o hW
          go_simp
          with_reducible rfl
        rotate_left
        · simp only [Act.put, List.setIfInBounds_toArray, List.set_cons_zero, List.set_cons_succ, i64_w, i32_w]
          rfl
        refine take_ (i := 10) (N := some 90) (v := ?_) (a' := ?_) #[true, true, true, true, true, false, true, true, true, true, true, false, false, false] rfl rfl (take_ofW HT_.out HW_.out (by kernel_rfl)) (fun _ _ _ h => h) (Or.inl ⟨by rfl, ?_⟩) K4.out ?_ ?_
        rotate_left
        · intro w' hW
          obtain ⟨e0, e1, e2, e3, fr⟩ := cells4o hW
          go_simp
          with_reducible rfl
        rotate_left
        · simp only [Act.put, List.setIfInBounds_toArray, List.set_cons_zero, List.set_cons_succ, i64_w, i32_w]
          rfl
        refine one_ (i := 5) (N := some 85) #[true, true, true, true, true, true, true, true, true, true, true, false, false, false] rfl rfl (one_of HT_.out (by kernel_rfl)) (by decide) (fun K hK => ?_)
        refine goes_ Try.func14 (by kernel_rfl) rfl #[.pointer (some ⟨d, 0, none⟩), .string x1, .string x2] (by rfl) rfl rfl (by (try simp only [List.map_toArray, List.map_cons, List.map_nil]); first | done | rfl) ?_
        refine (remote_PutNew.calls w4 TD d st hD4.out x1 x2 Y1.out).mono ?_
        rintro e w5 ⟨rfl, hD5, fD⟩
        refine ⟨_, rfl, ?_⟩
        have K5 := Aside0.mk (fD.keeps K4.out hbD)
        have hR5 := Aside0.mk (hR4.out.frm fD (fun k _ h1 h2 => hdis.out k h2 h1))
        have hD5 := Aside0.mk hD5
        have fD := Aside0.mk fD
        clear K4
        refine hK.out _ _ K5.out (fun _ => ?_)
        clear hK K
        refine norm_ (a' := ?_) ?_ ?_
        rotate_left
        · show Act.put _ (some 85) _ = _
          simp only [Act.put, List.setIfInBounds_toArray, List.set_cons_zero, List.set_cons_succ, i64_w, i32_w]
          rfl
        refine one_ (i := 11) (N := some 91) #[true, true, true, true, true, true, true, true, true, true, true, true, false, false] rfl rfl (one_of HT_.out (by kernel_rfl)) (by decide) (fun K hK => ?_)
        refine goes_ Try.func27 (by kernel_rfl) rfl #[.pointer (some ⟨g, 0, none⟩), .string x1, .string x2] (by rfl) rfl rfl (by (try simp only [List.map_toArray, List.map_cons, List.map_nil]); first | done | rfl) ?_
        refine (rf_PutNew w5 TR g st hR5.out HI1.out NDP.out x1 x2).mono ?_
        rintro e w6 ⟨rfl, hR6, fR⟩
        refine ⟨_, rfl, ?_⟩
        have K6 := Aside0.mk (fR.keeps K5.out hbR)
        have hR6 := Aside0.mk hR6
        have fR := Aside0.mk fR
        have T6 := Aside0.mk (Two.close hdis.out (fun i hi => ⟨(hTD.out i hi).1, Nat.lt_of_lt_of_le (hTD.out i hi).2 HSZ.out⟩) hTR.out (fun i hi => Nat.lt_of_lt_of_le (hO.out i hi) HSZ.out) B4.out.size hD5.out fD.out hR6.out fR.out)
        have B6 := Aside0.mk ((B4.out.trans (fD.out.below B4.out.size (fun i _ hi => (hTD.out i hi).1))).trans (fR.out.below (Nat.le_trans B4.out.size fD.out.size) (fun i _ hi => hTR.out i hi)))
        clear K5 hR6 fR hD5 hR5 fD hD4 hR4 hbD hbR
        refine hK.out _ _ K6.out (fun _ => ?_)
        clear hK K
        refine norm_ (a' := ?_) ?_ ?_
        rotate_left
        · show Act.put _ (some 91) _ = _
          simp only [Act.put, List.setIfInBounds_toArray, List.set_cons_zero, List.set_cons_succ, i64_w, i32_w]
          rfl
        refine pure_ (i := 12) (N := some 92) (v := ?_) (a' := ?_) #[true, true, true, true, true, true, true, true, true, true, true, true, true, false] rfl rfl (any_of HT_.out (by kernel_rfl)) (fun _ _ _ h => h) (Or.inl ⟨by rfl, ?_⟩) ?_ ?_
        rotate_left
        · intro w'
          go_simp
          with_reducible rfl
        rotate_left
        · simp only [Act.put, List.setIfInBounds_toArray, List.set_cons_zero, List.set_cons_succ, i64_w, i32_w]
          rfl
        refine pure_ (i := 13) (N := some 8) (v := ?_) (a' := ?_) #[true, true, true, true, true, true, true, true, true, true, true, true, true, true] rfl rfl (any_of HT_.out (by kernel_rfl)) (fun _ _ _ h => h) (Or.inl ⟨by rfl, ?_⟩) ?_ ?_
        rotate_left
        · intro w'
          go_simp
          with_reducible rfl
        rotate_left
        · simp only [Act.put, List.setIfInBounds_toArray, List.set_cons_zero, List.set_cons_succ, i64_w, i32_w]
          rfl
        refine done_ (done_of HT_.out (by kernel_rfl)) ?_
        go_wp2_with fail
        go_meet
        case rel => exact ⟨by first | rfl | simp, ⟨_, T6.out, by have := HI.out; have := st.putNew_len x1 x2; omega, B6.out⟩⟩
      rcases Bool.eq_false_or_eq_true (x0 == 3) with z3 | z3
      · as_aux_lemma =>
        have hbD : ¬ TD wr.heap.size := fun x => by have := (hTD.out _ x).2; omega
        have hbR : ¬ TR wr.heap.size := fun x => by have := hO.out _ x; omega
        have hD4 := Aside0.mk (hD.out.alloc (.cells #[.int .i64 x0, .string x1, .string x2, .slice A5 sc.length c5] 63))
        have hR4 := Aside0.mk (hR.out.frm (S := None') ((Frm.refl _ wr).alloc (.cells #[.int .i64 x0, .string x1, .string x2, .slice A5 sc.length c5] 63)) (fun _ _ _ x => x))
        have K4 := Aside0.mk (blk_new wr (.cells #[.int .i64 x0, .string x1, .string x2, .slice A5 sc.length c5] 63))
        have B4 := Aside0.mk (HB.out.alloc HB.out.size (.cells #[.int .i64 x0, .string x1, .string x2, .slice A5 sc.length c5] 63))
        have HSZ := Aside0.mk (show wr.heap.size ≤ (wr.alloc (.cells #[.int .i64 x0, .string x1, .string x2, .slice A5 sc.length c5] 63)).heap.size by simp)
        obtain ⟨bx, hbx⟩ : ∃ bx, wr.heap.size = bx := ⟨_, rfl⟩
        rw [hbx] at K4 hbD hbR ⊢
        have HBX := Aside0.mk hbx
        clear hbx
        generalize wr.alloc (.cells #[.int .i64 x0, .string x1, .string x2, .slice A5 sc.length c5] 63) = w4 at K4 hD4 hR4 B4 HSZ ⊢
        clear q0 q1 q2 q3
        obtain ⟨e0, e1, e2, e3, fr⟩ := cells4o K4.out
        go_wp2_with fail
        refine (remote_Get.calls w4 TD d st hD4.out x1 Y1.out).mono ?_
        rintro e w5 ⟨rfl, hD5, fD⟩
        rw [Rem.get_st] at hD5
        have K5 := Aside0.mk (fD.keeps K4.out hbD)
        have hR5 := Aside0.mk (hR4.out.frm fD (fun k _ h1 h2 => hdis.out k h2 h1))
        have hD5 := Aside0.mk hD5
        have fD := Aside0.mk fD
        clear e0 e1 e2 e3 fr
        obtain ⟨e0, e1, e2, e3, fr⟩ := cells4o K5.out
        go_wp2_with fail
        refine (rf_Get w5 TR g st hR5.out HI1.out NDP.out x1).mono ?_
        rintro e w6 ⟨rfl, hR6, fR⟩
        have hR6 := Aside0.mk (hR6.grow fR.size)
        have fR := Aside0.mk fR
        have T6 := Aside0.mk (Two.close hdis.out (fun i hi => ⟨(hTD.out i hi).1, Nat.lt_of_lt_of_le (hTD.out i hi).2 HSZ.out⟩) hTR.out (fun i hi => Nat.lt_of_lt_of_le (hO.out i hi) HSZ.out) B4.out.size hD5.out fD.out hR6.out fR.out)
        have B6 := Aside0.mk ((B4.out.trans (fD.out.below B4.out.size (fun i _ hi => (hTD.out i hi).1))).trans (fR.out.below (Nat.le_trans B4.out.size fD.out.size) (fun i _ hi => hTR.out i hi)))
        clear e0 e1 e2 e3 fr hR6 fR hD5 hR5 fD hD4 hR4 K4 K5
        generalize (st.get x1).2.1 = rb
        generalize (st.get x1).2.2 = re
        have hbx := HBX.out
        clear HBX
        subst hbx
        go_wp2_with fail
        go_meet
        case rel => exact ⟨by first | rfl | simp, ⟨_, T6.out, by have := HI.out; have := (show st.next.m.length = st.m.length from rfl); omega, B6.out⟩⟩
      rcases Bool.eq_false_or_eq_true (x0 == 4) with z4 | z4
      · as_aux_lemma =>
        go_wp2_with fail
        have hbD : ¬ TD wr.heap.size := fun x => by have := (hTD.out _ x).2; omega
        have hbR : ¬ TR wr.heap.size := fun x => by have := hO.out _ x; omega
        refine region_draw (n := 10) (S := fun W => W.heap[wr.heap.size]? = some (.cells #[.int .i64 x0, .string x1, .string x2, .slice A5 sc.length c5] 63)) (ds := []) #[false, false, false, false, false, false, false, false, false, false] (by kernel_rfl) rfl rfl (fun W => W.heap[wr.heap.size]? = some (.cells #[.int .i64 x0, .string x1, .string x2, .slice A5 sc.length c5] 63) ∧ RemAt W TD d st ∧ RfR W TR g (refL st.m) st.s st.n ∧ Below w.heap.size w W ∧ wr.heap.size ≤ W.heap.size) ⟨blk_drew (blk_new _ _), (hD.out.alloc _).frm (S := None') (Frm.refl _ _).drew (fun _ _ x => x), hR.out.frm (S := None') (((Frm.refl _ _).alloc _).drew) (fun _ _ _ x => x), (HB.out.alloc HB.out.size _).drew, by simp [World.drew]⟩ (fun W h => h.1) ?_
        rintro w4 ⟨k4, hD4, hR4, b4, hsz4⟩
        refine with_tabW rplays26tab rplays26bits (fun HT_ HW_ => ?_)
        clear q0 q1 q2 q3
        have K4 := Aside0.mk k4
        have hD4 := Aside0.mk hD4
        have hR4 := Aside0.mk hR4
        have B4 := Aside0.mk b4
        have HSZ := Aside0.mk hsz4
        clear k4 b4 hsz4
        refine pure_ (i := 0) (N := some 119) (v := ?_) (a' := ?_) #[true, false, false, false, false, false, false, false, false, false] rfl rfl (any_of HT_.out (by kernel_rfl)) (fun _ _ _ h => h) (Or.inl ⟨by rfl, ?_⟩) ?_ ?_
        rotate_left
        · intro w'
          go_simp
          with_reducible rfl
        rotate_left
        · simp only [Act.put, List.setIfInBounds_toArray, List.set_cons_zero, List.set_cons_succ, i64_w, i32_w]
          rfl
        refine pure_ (i := 1) (N := some 120) (v := ?_) (a' := ?_) #[true, true, false, false, false, false, false, false, false, false] rfl rfl (any_of HT_.out (by kernel_rfl)) (fun _ _ _ h => h) (Or.inl ⟨by rfl, ?_⟩) ?_ ?_
        rotate_left
        · intro w'
          go_simp
          with_reducible rfl
        rotate_left
        · simp only [Act.put, List.setIfInBounds_toArray, List.set_cons_zero, List.set_cons_succ, i64_w, i32_w]
          rfl
        refine pure_ (i := 4) (N := some 123) (v := ?_) (a' := ?_) #[true, true, false, false, true, false, false, false, false, false] rfl rfl (any_of HT_.out (by kernel_rfl)) (fun _ _ _ h => h) (Or.inl ⟨by rfl, ?_⟩) ?_ ?_
        rotate_left
        · intro w'
          go_simp
          with_reducible rfl
        rotate_left
        · simp only [Act.put, List.setIfInBounds_toArray, List.set_cons_zero, List.set_cons_succ, i64_w, i32_w]
          rfl
        refine pure_ (i := 5) (N := some 124) (v := ?_) (a' := ?_) #[true, true, false, false, true, true, false, false, false, false] rfl rfl (any_of HT_.out (by kernel_rfl)) (fun _ _ _ h => h) (Or.inl ⟨by rfl, ?_⟩) ?_ ?_
        rotate_left
        · intro w'
          go_simp
          with_reducible rfl
        rotate_left
        · simp only [Act.put, List.setIfInBounds_toArray, List.set_cons_zero, List.set_cons_succ, i64_w, i32_w]
          rfl
        refine take_ (i := 2) (N := some 121) (v := ?_) (a' := ?_) #[true, true, true, false, true, true, false, false, false, false] rfl rfl (take_ofW HT_.out HW_.out (by kernel_rfl)) (fun _ _ _ h => h) (Or.inl ⟨by rfl, ?_⟩) K4.out ?_ ?_
        rotate_left
        · intro w' hW
          obtain ⟨e0, e1, e2, e3, fr⟩ := cells4o hW
          go_simp
          with_reducible rfl
        rotate_left
        · simp only [Act.put, List.setIfInBounds_toArray, List.set_cons_zero, List.set_cons_succ, i64_w, i32_w]
          rfl
        refine take_ (i := 6) (N := some 125) (v := ?_) (a' := ?_) #[true, true, true, false, true, true, true, false, false, false] rfl rfl (take_ofW HT_.out HW_.out (by kernel_rfl)) (fun _ _ _ h => h) (Or.inl ⟨by rfl, ?_⟩) K4.out ?_ ?_
        rotate_left
        · intro w' hW
          obtain ⟨e0, e1, e2, e3, fr⟩ := cells4o hW
          go_simp
          with_reducible rfl
        rotate_left
        · simp only [Act.put, List.setIfInBounds_toArray, List.set_cons_zero, List.set_cons_succ, i64_w, i32_w]
          rfl
        refine one_ (i := 3) (N := some 122) #[true, true, true, true, true, true, true, false, false, false] rfl rfl (one_of HT_.out (by kernel_rfl)) (by decide) (fun K hK => ?_)
        refine goes_ Try.func29 (by kernel_rfl) rfl #[.pointer (some ⟨d, 0, none⟩), .string x1] (by rfl) rfl rfl (by (try simp only [List.map_toArray, List.map_cons, List.map_nil]); first | done | rfl) ?_
        refine (remote_Delete.calls w4 TD d st hD4.out x1 Y1.out).mono ?_
        rintro e w5 ⟨rfl, hD5, fD⟩
        refine ⟨_, rfl, ?_⟩
        have K5 := Aside0.mk (fD.keeps K4.out hbD)
        have hR5 := Aside0.mk (hR4.out.frm fD (fun k _ h1 h2 => hdis.out k h2 h1))
        have hD5 := Aside0.mk hD5
        have fD := Aside0.mk fD
        clear K4
        refine hK.out _ _ K5.out (fun _ => ?_)
        clear hK K
        refine norm_ (a' := ?_) ?_ ?_
        rotate_left
        · show Act.put _ (some 122) _ = _
          simp only [Act.put, List.setIfInBounds_toArray, List.set_cons_zero, List.set_cons_succ, i64_w, i32_w]
          rfl
        refine one_ (i := 7) (N := some 126) #[true, true, true, true, true, true, true, true, false, false] rfl rfl (one_of HT_.out (by kernel_rfl)) (by decide) (fun K hK => ?_)
        refine goes_ Try.func30 (by kernel_rfl) rfl #[.pointer (some ⟨g, 0, none⟩), .string x1] (by rfl) rfl rfl (by (try simp only [List.map_toArray, List.map_cons, List.map_nil]); first | done | rfl) ?_
        refine (rf_Delete w5 TR g st hR5.out HI1.out NDP.out x1).mono ?_
        rintro e w6 ⟨rfl, hR6, fR⟩
        refine ⟨_, rfl, ?_⟩
        have K6 := Aside0.mk (fR.keeps K5.out hbR)
        have hR6 := Aside0.mk hR6
        have fR := Aside0.mk fR
        have T6 := Aside0.mk (Two.close hdis.out (fun i hi => ⟨(hTD.out i hi).1, Nat.lt_of_lt_of_le (hTD.out i hi).2 HSZ.out⟩) hTR.out (fun i hi => Nat.lt_of_lt_of_le (hO.out i hi) HSZ.out) B4.out.size hD5.out fD.out hR6.out fR.out)
        have B6 := Aside0.mk ((B4.out.trans (fD.out.below B4.out.size (fun i _ hi => (hTD.out i hi).1))).trans (fR.out.below (Nat.le_trans B4.out.size fD.out.size) (fun i _ hi => hTR.out i hi)))
        clear K5 hR6 fR hD5 hR5 fD hD4 hR4 hbD hbR
        refine hK.out _ _ K6.out (fun _ => ?_)
        clear hK K
        refine norm_ (a' := ?_) ?_ ?_
        rotate_left
        · show Act.put _ (some 126) _ = _
          simp only [Act.put, List.setIfInBounds_toArray, List.set_cons_zero, List.set_cons_succ, i64_w, i32_w]
          rfl
        refine pure_ (i := 8) (N := some 127) (v := ?_) (a' := ?_) #[true, true, true, true, true, true, true, true, true, false] rfl rfl (any_of HT_.out (by kernel_rfl)) (fun _ _ _ h => h) (Or.inl ⟨by rfl, ?_⟩) ?_ ?_
        rotate_left
        · intro w'
          go_simp
          with_reducible rfl
        rotate_left
        · simp only [Act.put, List.setIfInBounds_toArray, List.set_cons_zero, List.set_cons_succ, i64_w, i32_w]
          rfl
        refine pure_ (i := 9) (N := some 8) (v := ?_) (a' := ?_) #[true, true, true, true, true, true, true, true, true, true] rfl rfl (any_of HT_.out (by kernel_rfl)) (fun _ _ _ h => h) (Or.inl ⟨by rfl, ?_⟩) ?_ ?_
        rotate_left
        · intro w'
          go_simp
          with_reducible rfl
        rotate_left
        · simp only [Act.put, List.setIfInBounds_toArray, List.set_cons_zero, List.set_cons_succ, i64_w, i32_w]
          rfl
        refine done_ (done_of HT_.out (by kernel_rfl)) ?_
        go_wp2_with fail
        go_meet
        case rel => exact ⟨by first | rfl | simp, ⟨_, T6.out, by have := HI.out; have := st.delete_len x1; omega, B6.out⟩⟩
      rcases Bool.eq_false_or_eq_true (x0 == 5) with z5 | z5
      · as_aux_lemma =>
        have hbD : ¬ TD wr.heap.size := fun x => by have := (hTD.out _ x).2; omega
        have hbR : ¬ TR wr.heap.size := fun x => by have := hO.out _ x; omega
        have hD4 := Aside0.mk (hD.out.alloc (.cells #[.int .i64 x0, .string x1, .string x2, .slice A5 sc.length c5] 63))
        have hR4 := Aside0.mk (hR.out.frm (S := None') ((Frm.refl _ wr).alloc (.cells #[.int .i64 x0, .string x1, .string x2, .slice A5 sc.length c5] 63)) (fun _ _ _ x => x))
        have K4 := Aside0.mk (blk_new wr (.cells #[.int .i64 x0, .string x1, .string x2, .slice A5 sc.length c5] 63))
        have B4 := Aside0.mk (HB.out.alloc HB.out.size (.cells #[.int .i64 x0, .string x1, .string x2, .slice A5 sc.length c5] 63))
        have HSZ := Aside0.mk (show wr.heap.size ≤ (wr.alloc (.cells #[.int .i64 x0, .string x1, .string x2, .slice A5 sc.length c5] 63)).heap.size by simp)
        obtain ⟨bx, hbx⟩ : ∃ bx, wr.heap.size = bx := ⟨_, rfl⟩
        rw [hbx] at K4 hbD hbR ⊢
        have HBX := Aside0.mk hbx
        clear hbx
        generalize wr.alloc (.cells #[.int .i64 x0, .string x1, .string x2, .slice A5 sc.length c5] 63) = w4 at K4 hD4 hR4 B4 HSZ ⊢
        clear q0 q1 q2 q3
        obtain ⟨e0, e1, e2, e3, fr⟩ := cells4o K4.out
        go_wp2_with fail
        refine (remote_List.calls w4 TD d st hD4.out (fun i hi => Nat.lt_of_lt_of_le (hTD.out i hi).2 HSZ.out) (by have := HI1.out; omega)).mono ?_
        rintro e w5 ⟨v5, rfl, hL5, hD5, fD⟩
        obtain ⟨A6, c6, rfl, hc6, hC6⟩ := Kd.R_reads hL5
        have HL5 := Aside0.mk hL5
        clear hL5 hC6
        have K5 := Aside0.mk (fD.keeps K4.out hbD)
        have hR5 := Aside0.mk (hR4.out.frm fD (fun k _ h1 h2 => hdis.out k h2 h1))
        have hD5 := Aside0.mk hD5
        have fD := Aside0.mk fD
        clear e0 e1 e2 e3 fr
        obtain ⟨e0, e1, e2, e3, fr⟩ := cells4o K5.out
        go_wp2_with fail
        refine (rf_List w5 TR g st hR5.out HI1.out NDP.out).mono ?_
        rintro e w6 ⟨v6, rfl, hL6, hR6, fR⟩
        obtain ⟨A7, c7, rfl, hc7, hC7⟩ := Kd.R_reads hL6
        have HC7 := Aside0.mk hC7
        have HC6b := Aside0.mk (show Kd.string.C w6 A6 st.list.1.length st.list.1 from (Kd.R_reads' (Kd.R_step (Kd.R_bound HL5.out) (w1 := w6) (fun k hk hlt => fR.block k hlt (fun hr => by have h1 := hO.out k hr; have h2 := HSZ.out; have h3 := hk.2.1; omega)))).2.2)
        have hR6 := Aside0.mk (hR6.grow fR.size)
        have fR := Aside0.mk fR
        have T6 := Aside0.mk (Two.close hdis.out (fun i hi => ⟨(hTD.out i hi).1, Nat.lt_of_lt_of_le (hTD.out i hi).2 HSZ.out⟩) hTR.out (fun i hi => Nat.lt_of_lt_of_le (hO.out i hi) HSZ.out) B4.out.size (hD5.out.mono fun k _ hk => Or.inl hk) fD.out hR6.out fR.out)
        have B6 := Aside0.mk ((B4.out.trans (fD.out.below B4.out.size (fun i _ hi => (hTD.out i hi).1))).trans (fR.out.below (Nat.le_trans B4.out.size fD.out.size) (fun i _ hi => hTR.out i hi)))
        clear e0 e1 e2 e3 fr hR6 fR hD5 hR5 fD hD4 hR4 K4 K5 hL6 hC7
        have hll : st.list.1.length ≤ 1000000 := by
          unfold Rem.list
          split
          · simp
          · show (names st.m).length ≤ 1000000
            unfold names
            rw [sorted_length, List.length_map]
            have := HI1.out
            omega
        have HLL := Aside0.mk hll
        clear hll
        generalize st.list.1 = ns at hc6 hc7 HC6b HC7 HLL ⊢
        generalize st.list.2 = ne
        go_wp2_with fail
        refine (rf_Strings w6 A6 A7 c6 c7 ns HC6b.out hc6 HC7.out hc7 HLL.out).mono ?_
        rintro e w7 ⟨rfl, b7⟩
        have T7 := Aside0.mk (T6.out.below b7)
        have B7 := Aside0.mk (B6.out.trans (b7.mono B6.out.size))
        clear b7
        have hbx := HBX.out
        clear HBX
        subst hbx
        go_wp2_with fail
        go_meet
        case rel => exact ⟨by first | rfl | simp, ⟨_, T7.out, by have := HI.out; have := (show st.next.m.length = st.m.length from rfl); omega, B7.out⟩⟩
      as_aux_lemma =>
      have hbD : ¬ TD wr.heap.size := fun x => by have := (hTD.out _ x).2; omega
      have hbR : ¬ TR wr.heap.size := fun x => by have := hO.out _ x; omega
      have hD4 := Aside0.mk (hD.out.alloc (.cells #[.int .i64 x0, .string x1, .string x2, .slice A5 sc.length c5] 63))
      have hR4 := Aside0.mk (hR.out.frm (S := None') ((Frm.refl _ wr).alloc (.cells #[.int .i64 x0, .string x1, .string x2, .slice A5 sc.length c5] 63)) (fun _ _ _ x => x))
      have K4 := Aside0.mk (blk_new wr (.cells #[.int .i64 x0, .string x1, .string x2, .slice A5 sc.length c5] 63))
      have B4 := Aside0.mk (HB.out.alloc HB.out.size (.cells #[.int .i64 x0, .string x1, .string x2, .slice A5 sc.length c5] 63))
      have HSZ := Aside0.mk (show wr.heap.size ≤ (wr.alloc (.cells #[.int .i64 x0, .string x1, .string x2, .slice A5 sc.length c5] 63)).heap.size by simp)
      obtain ⟨bx, hbx⟩ : ∃ bx, wr.heap.size = bx := ⟨_, rfl⟩
      rw [hbx] at K4 hbD hbR ⊢
      have HBX := Aside0.mk hbx
      clear hbx
      generalize wr.alloc (.cells #[.int .i64 x0, .string x1, .string x2, .slice A5 sc.length c5] 63) = w4 at K4 hD4 hR4 B4 HSZ ⊢
      clear q0 q1 q2 q3
      obtain ⟨e0, e1, e2, e3, fr⟩ := cells4o K4.out
      go_wp2_with fail
      refine (remote_Script.calls w4 TD d st hD4.out A5 sc.length c5 sc (Kd.C_below HC5.out B4.out) hc5 HZ.out).mono ?_
      rintro e w5 ⟨rfl, hD5, fD⟩
      have B5 := Aside0.mk (B4.out.trans (fD.below B4.out.size (fun i _ hi => (hTD.out i hi).1)))
      have K5 := Aside0.mk (fD.keeps K4.out hbD)
      have hR5 := Aside0.mk (hR4.out.frm fD (fun k _ h1 h2 => hdis.out k h2 h1))
      have hD5 := Aside0.mk hD5
      have fD := Aside0.mk fD
      clear e0 e1 e2 e3 fr
      obtain ⟨e0, e1, e2, e3, fr⟩ := cells4o K5.out
      have H0 := Aside0.mk (Kd.R_of_own (own_lit_of (enc := Value.int .i64) w5 w5.heap.size 3 [] (Nat.le_refl _) (by decide)) (fun _ _ => trivial) : (Kd.int .i64).R 3 (w5.alloc (.cells #[] 3)) w5.heap.size (fun _ => True) (.slice (some ⟨w5.heap.size, 0, none⟩) 0 0) [])
      obtain ⟨e0', e1', e2', e3', fr'⟩ := cells4o (blk_alloc K5.out (.cells #[] 3))
      go_wp2_with (at_builtin; refine Kd.R_append_row (Value.int .i64) 0 (w0 := w5) w5.heap.size rfl (.tmp 56) (.tmp 58) 23 3 (.int .i64 0) 8 rfl Try.underlying23 intinfo rfl (by decide) _ [] sc A5 sc.length c5 (fun _ => True) rfl rfl (fun _ _ => trivial) H0.out (Kd.C_below HC5.out (below_alloc B5.out _)) (below_alloc (Below.refl _ _) _) (by simp) (by have := HZ.out; simp; omega) ?_; intro v1 w6 hR hB hg hat; obtain ⟨A6, c6, rfl⟩ := Kd.R_slice hR; obtain ⟨n6, hn6⟩ : ∃ n_ : Nat, ([] ++ sc).length = n_ := ⟨_, rfl⟩; rw [hn6] at hR ⊢; have HSC := Aside0.mk (hR5.out.script hB hR); obtain ⟨_, _, vv, ss, hst, _⟩ := hR5.out.below hB; obtain ⟨t0, t1, t2, tr⟩ := cells3 hst; clear hR hB hg hat hst hn6)
      have hR6 := Aside0.mk HSC.out.1
      have fR := Aside0.mk HSC.out.2
      have T6 := Aside0.mk (Two.close hdis.out (fun i hi => ⟨(hTD.out i hi).1, Nat.lt_of_lt_of_le (hTD.out i hi).2 HSZ.out⟩) hTR.out (fun i hi => Nat.lt_of_lt_of_le (hO.out i hi) HSZ.out) B4.out.size hD5.out fD.out (by simpa using hR6.out) fR.out)
      have B6 := Aside0.mk ((B4.out.trans (fD.out.below B4.out.size (fun i _ hi => (hTD.out i hi).1))).trans (fR.out.below (Nat.le_trans B4.out.size fD.out.size) (fun i _ hi => hTR.out i hi)))
      have hbx := HBX.out
      clear HBX
      subst hbx
      go_wp2_with fail
      go_meet
      case rel => exact ⟨by first | rfl | simp, ⟨_, T6.out, by have := HI.out; have := (show ({ st with s := sc } : Rem).m.length = st.m.length from rfl); omega, B6.out⟩⟩
    case rest =>
     as_aux_lemma =>
      obtain ⟨rfl, HP⟩ := hcut
      obtain ⟨st', hT, hI, hB6⟩ := HP.out
      clear HP
      have HT6 := Aside0.mk hT
      have HI6 := Aside0.mk hI
      have HB6 := Aside0.mk hB6
      obtain ⟨TD', TR', hD', hR', _, _, _⟩ := hT
      obtain ⟨_, _, v, sv, hst, _, _⟩ := hR'
      have HD' := Aside0.mk hD'
      have HST := Aside0.mk hst
      clear hI hB6 hD' hst
      go_wp2_with fail
      refine region_draw (n := 11) (S := fun W => W.heap[g]? = some (.cells #[v, sv, .int .i64 st'.n] 61)) (ds := []) #[false, false, false, false, false, false, false, false, false, false, false] (by kernel_rfl) rfl rfl (fun W => W.heap[g]? = some (.cells #[v, sv, .int .i64 st'.n] 61) ∧ RemAt W TD' d st' ∧ Below wc.heap.size wc W) ⟨blk_drew HST.out, HD'.out.frm (S := None') (Frm.refl _ _).drew (fun _ _ x => x), (Below.refl _ _).drew⟩ (fun W h => h.1) ?_
      rintro w4 ⟨k4, hD4, b4⟩
      refine with_tabW rplays32tab rplays32bits (fun HT_ HW_ => ?_)
      have K4 := Aside0.mk k4
      have hD4 := Aside0.mk hD4
      have B4 := Aside0.mk b4
      clear k4 b4
      refine pure_ (i := 0) (N := some 149) (v := ?_) (a' := ?_) #[true, false, false, false, false, false, false, false, false, false, false] rfl rfl (any_of HT_.out (by kernel_rfl)) (fun _ _ _ h => h) (Or.inl ⟨by rfl, ?_⟩) ?_ ?_
      rotate_left
      · intro w'
        go_simp
        with_reducible rfl
      rotate_left
      · simp only [Act.put, List.setIfInBounds_toArray, List.set_cons_zero, List.set_cons_succ, i64_w, i32_w]
        rfl
      refine pure_ (i := 1) (N := some 150) (v := ?_) (a' := ?_) #[true, true, false, false, false, false, false, false, false, false, false] rfl rfl (any_of HT_.out (by kernel_rfl)) (fun _ _ _ h => h) (Or.inl ⟨by rfl, ?_⟩) ?_ ?_
      rotate_left
      · intro w'
        go_simp
        with_reducible rfl
      rotate_left
      · simp only [Act.put, List.setIfInBounds_toArray, List.set_cons_zero, List.set_cons_succ, i64_w, i32_w]
        rfl
      refine pure_ (i := 2) (N := some 151) (v := ?_) (a' := ?_) #[true, true, true, false, false, false, false, false, false, false, false] rfl rfl (any_of HT_.out (by kernel_rfl)) (fun _ _ _ h => h) (Or.inl ⟨by rfl, ?_⟩) ?_ ?_
      rotate_left
      · intro w'
        go_simp
        with_reducible rfl
      rotate_left
      · simp only [Act.put, List.setIfInBounds_toArray, List.set_cons_zero, List.set_cons_succ, i64_w, i32_w]
        rfl
      refine pure_ (i := 3) (N := some 152) (v := ?_) (a' := ?_) #[true, true, true, true, false, false, false, false, false, false, false] rfl rfl (any_of HT_.out (by kernel_rfl)) (fun _ _ _ h => h) (Or.inl ⟨by rfl, ?_⟩) ?_ ?_
      rotate_left
      · intro w'
        go_simp
        with_reducible rfl
      rotate_left
      · simp only [Act.put, List.setIfInBounds_toArray, List.set_cons_zero, List.set_cons_succ, i64_w, i32_w]
        rfl
      refine pure_ (i := 5) (N := some 154) (v := ?_) (a' := ?_) #[true, true, true, true, false, true, false, false, false, false, false] rfl rfl (any_of HT_.out (by kernel_rfl)) (fun _ _ _ h => h) (Or.inl ⟨by rfl, ?_⟩) ?_ ?_
      rotate_left
      · intro w'
        go_simp
        with_reducible rfl
      rotate_left
      · simp only [Act.put, List.setIfInBounds_toArray, List.set_cons_zero, List.set_cons_succ, i64_w, i32_w]
        rfl
      refine pure_ (i := 6) (N := some 155) (v := ?_) (a' := ?_) #[true, true, true, true, false, true, true, false, false, false, false] rfl rfl (any_of HT_.out (by kernel_rfl)) (fun _ _ _ h => h) (Or.inl ⟨by rfl, ?_⟩) ?_ ?_
      rotate_left
      · intro w'
        go_simp
        with_reducible rfl
      rotate_left
      · simp only [Act.put, List.setIfInBounds_toArray, List.set_cons_zero, List.set_cons_succ, i64_w, i32_w]
        rfl
      refine pure_ (i := 7) (N := some 156) (v := ?_) (a' := ?_) #[true, true, true, true, false, true, true, true, false, false, false] rfl rfl (any_of HT_.out (by kernel_rfl)) (fun _ _ _ h => h) (Or.inl ⟨by rfl, ?_⟩) ?_ ?_
      rotate_left
      · intro w'
        go_simp
        with_reducible rfl
      rotate_left
      · simp only [Act.put, List.setIfInBounds_toArray, List.set_cons_zero, List.set_cons_succ, i64_w, i32_w]
        rfl
      refine take_ (i := 8) (N := some 157) (v := ?_) (a' := ?_) #[true, true, true, true, false, true, true, true, true, false, false] rfl rfl (take_ofW HT_.out HW_.out (by kernel_rfl)) (fun _ _ _ h => h) (Or.inl ⟨by rfl, ?_⟩) K4.out ?_ ?_
      rotate_left
      · intro w' hW
        obtain ⟨t0, t1, t2, tr⟩ := cells3 hW
        go_simp
        with_reducible rfl
      rotate_left
      · simp only [Act.put, List.setIfInBounds_toArray, List.set_cons_zero, List.set_cons_succ, i64_w, i32_w]
        rfl
      refine one_ (i := 4) (N := some 153) #[true, true, true, true, true, true, true, true, true, false, false] rfl rfl (one_of HT_.out (by kernel_rfl)) (by decide) (fun K hK => ?_)
      refine goes_ Try.func13 (by kernel_rfl) rfl #[.pointer (some ⟨d, 0, none⟩)] (by rfl) rfl rfl (by (try simp only [List.map_toArray, List.map_cons, List.map_nil]); first | done | rfl) ?_
      refine (remote_Calls.calls w4 TD' d st' hD4.out).mono ?_
      rintro e w5 ⟨rfl, hw5⟩
      refine ⟨_, rfl, ?_⟩
      subst hw5
      refine hK.out _ _ K4.out (fun _ => ?_)
      clear hK K
      refine norm_ (a' := ?_) ?_ ?_
      rotate_left
      · show Act.put _ (some 153) _ = _
        simp only [Act.put, List.setIfInBounds_toArray, List.set_cons_zero, List.set_cons_succ, i64_w, i32_w]
        rfl
      refine pure_ (i := 9) (N := some 158) (v := ?_) (a' := ?_) #[true, true, true, true, true, true, true, true, true, true, false] rfl rfl (any_of HT_.out (by kernel_rfl)) (fun _ _ _ h => h) (Or.inl ⟨by rfl, ?_⟩) ?_ ?_
      rotate_left
      · intro w'
        go_simp
        with_reducible rfl
      rotate_left
      · simp only [Act.put, List.setIfInBounds_toArray, List.set_cons_zero, List.set_cons_succ, i64_w, i32_w]
        rfl
      refine pure_ (i := 10) (N := some 159) (v := ?_) (a' := ?_) #[true, true, true, true, true, true, true, true, true, true, true] rfl rfl (any_of HT_.out (by kernel_rfl)) (fun _ _ _ h => h) (Or.inl ⟨by rfl, ?_⟩) ?_ ?_
      rotate_left
      · intro w'
        go_simp
        with_reducible rfl
      rotate_left
      · simp only [Act.put, List.setIfInBounds_toArray, List.set_cons_zero, List.set_cons_succ, i64_w, i32_w]
        rfl
      refine done_ (done_of HT_.out (by kernel_rfl)) ?_
      go_wp2_with fail
      go_roundw
      case rel => exact ⟨k + 1, st', by omega, by omega, by go_num, HI6, ⟨HT6.out.below B4.out⟩, ⟨HB6.out.trans (B4.out.mono HB6.out.size)⟩⟩
      case measure => simp [intOf]; omega
end Go.Proofs.Ytnkadkahdnnbbaa.Thw
