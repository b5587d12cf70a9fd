/- Several texts of mine in one (Ev13n, Ev13o). -/
import Derived.Test.YtlnbekaldemebaaGreatDoorMB3
/-! ## Layer 13 (publish): what PublishOnce comes to, in plain words. -/
namespace Go.Proofs.YtlnbekaldemebaaGreatDoor.Thw
open Go Go.RowKit Go.Proofs.YtlnbekaldemebaaGreatDoor.Print Go.Proofs.YtlnbekaldemebaaGreatDoorW.PrintWords Go.Proofs.YtlnbekaldemebaaGreatDoorW.PrintLast Go.Proofs.YtlnbekaldemebaaGreatDoorW.PrintMore
set_option linter.unusedVariables false
set_option linter.unusedSimpArgs false
theorem mnf_list {v : Nat} (h1 : 1 ≤ v) (h2 : v ≤ 999999) : L (mnf (v : Int)) = 109 :: six v := by
  show L (nameB 109 (v : Int) 1) = _
  unfold nameB nameL
  rw [L_B, if_neg (by omega)]
  simp
theorem mnf_isV {v : Nat} (h1 : 1 ≤ v) (h2 : v ≤ 999999) : IsV (L (mnf (v : Int))) v := ⟨h1, h2, mnf_list h1 h2⟩
theorem mnf_inj {a b : Nat} (ha : 1 ≤ a) (ha2 : a ≤ 999999) (hb : 1 ≤ b) (hb2 : b ≤ 999999) (h : mnf (a : Int) = mnf (b : Int)) : a = b := (mnf_isV ha ha2).uniq (h ▸ mnf_isV hb hb2)
theorem mnf_lt {a b : Nat} (ha : 1 ≤ a) (ha2 : a ≤ 999999) (hb : 1 ≤ b) (hb2 : b ≤ 999999) (h : sl (mnf (a : Int)) (mnf (b : Int))) : a < b := by
  have h' : L (mnf (a : Int)) < L (mnf (b : Int)) := h
  rw [mnf_list ha ha2, mnf_list hb hb2, List.cons_lt_cons_iff] at h'
  rcases h' with h' | ⟨_, h'⟩
  · exact absurd h' (by decide)
  · exact (digs_lt 6 a b (by omega) (by omega)).1 h'
/-- All objects are manifests of one segment, of versions up to mv; that of mv is there. -/
structure OInv (m : Fls) (mv : Nat) : Prop where
  nd : (m.map (·.1)).Nodup
  all : ∀ p ∈ m, ∃ v s, 1 ≤ v ∧ v ≤ mv ∧ p.1 = mnf (v : Nat) ∧ readR (L p.2) = (some (v, [s]), 0) ∧ p.2.size ≤ 1000000
  top : mv = 0 ∨ mnf (mv : Nat) ∈ m.map (·.1)
theorem look_mem {m : Fls} (hn : (m.map (·.1)).Nodup) {p : ByteArray × ByteArray} (hp : p ∈ m) : look m p.1 = some p.2 := by
  obtain ⟨j, hj⟩ := List.getElem?_of_mem hp
  exact look_at hn hj
theorem OInv.fit {m : Fls} {mv : Nat} (h : OInv m mv) (hm : mv ≤ 999999) : Fit 1000000 m := fun p hp => by
  obtain ⟨v, s, h1, h2, h3, _, h5⟩ := h.all p hp
  refine ⟨?_, h5⟩
  rw [h3]
  exact Nat.le_trans (nameB_size 109 v 1) (by decide)
theorem OInv.last {m : Fls} {mv : Nat} (h : OInv m mv) (hm : mv ≤ 999999) (h1 : 1 ≤ mv) : ∃ ns, names m = ns ++ [mnf (mv : Nat)] := by
  have hin : mnf (mv : Nat) ∈ names m := mem_names.2 (h.top.resolve_left (by omega))
  have hne : names m ≠ [] := fun e => by rw [e] at hin; cases hin
  have hpw := names_pw h.nd
  obtain ⟨ns, x, hx⟩ : ∃ ns x, names m = ns ++ [x] := ⟨_, _, (List.dropLast_concat_getLast hne).symm⟩
  refine ⟨ns, ?_⟩
  rw [hx] at hin hpw ⊢
  rcases List.mem_append.1 hin with h2 | h2
  · exfalso
    have h3 : sl (mnf (mv : Nat)) x := (List.pairwise_append.1 hpw).2.2 _ h2 x (List.mem_singleton.2 rfl)
    have h4 : x ∈ names m := by rw [hx]; exact List.mem_append.2 (Or.inr (List.mem_singleton.2 rfl))
    obtain ⟨p, hp, rfl⟩ := List.mem_map.1 (mem_names.1 h4)
    obtain ⟨v, s, v1, v2, v3, _⟩ := h.all p hp
    rw [v3] at h3
    have := mnf_lt h1 hm v1 (by omega) h3
    omega
  · rw [List.mem_singleton.1 h2]
theorem once_latest {st : Rem} {mv : Nat} (h : OInv st.m mv) (hm : mv ≤ 999999) (hs : st.s = []) :
    (mv = 0 ∧ (pubLatest st).2 = ((0, []), 5)) ∨ (1 ≤ mv ∧ ∃ b s, look st.m (mnf (mv : Nat)) = some b ∧ readR (L b) = (some (mv, [s]), 0) ∧ (pubLatest st).2 = (((mv : Int), [mkSg s]), 0)) := by
  have hl : st.list = (names st.m, 0) := by
    unfold Rem.list
    rw [if_neg (by unfold Rem.fate; rw [hs]; decide)]
  have hX : pubLatest st = latEnd (latRun st.next (names st.m).reverse) := by
    unfold pubLatest
    rw [hl, if_neg (fun e => e rfl)]
  rw [hX]
  rcases Nat.eq_zero_or_pos mv with h0 | h0
  · left
    refine ⟨h0, ?_⟩
    have hm0 : st.m = [] := List.eq_nil_iff_forall_not_mem.2 fun p hp => by
      obtain ⟨v, s, v1, v2, _⟩ := h.all p hp
      omega
    have : names st.m = [] := by rw [hm0]; simp [names, sorted]
    rw [this]
    rfl
  · right
    refine ⟨h0, ?_⟩
    obtain ⟨ns, hns⟩ := h.last hm h0
    obtain ⟨p, hp, hpk⟩ := List.mem_map.1 (h.top.resolve_left (by omega))
    obtain ⟨v, s, v1, v2, v3, v4, v5⟩ := h.all p hp
    have hv : v = mv := mnf_inj v1 (by omega) h0 hm (by rw [← v3, hpk])
    subst hv
    have hlk : look st.m (mnf (v : Nat)) = some p.2 := by rw [← v3]; exact look_mem h.nd hp
    refine ⟨p.2, s, hlk, v4, ?_⟩
    have hg : (st.next.get (mnf (v : Nat))).2 = (p.2, 0) := by
      unfold Rem.get
      have hf : st.next.fate = 0 := by unfold Rem.fate Rem.next; rw [hs]; rfl
      rw [if_neg (by rw [hf]; decide), show look st.next.m (mnf (v : Nat)) = some p.2 from hlk]
    have hst : latStep st.next (mnf (v : Nat)) = ((st.next.get (mnf (v : Nat))).1, some (((v : Int), [mkSg s]), 0)) := by
      unfold latStep
      rw [verF_some (mnf_isV v1 hm)]
      simp only
      rw [hg]
      simp only
      rw [if_neg (by decide), if_pos trivial, v4]
      simp
    rw [hns, List.reverse_append, List.reverse_singleton, List.singleton_append, latRun, hst]
    rfl
theorem one_bytes (v : Nat) (s : Sn) : (B (sealS (bodyS v [s]))).size ≤ 1000000 := by
  rw [B_size, sealS_length]
  have h1 := putS_len v
  have h2 := putS_len 1
  have h3 := segsB_len [s]
  unfold bodyS
  rw [List.length_append, List.length_append]
  simp at h2 h3 ⊢
  omega
theorem one_right {v i z : Nat} (hv : 1 ≤ v) (hv2 : v ≤ 999999) (hi : i ≤ 999999) (hz : z ≤ 1048576) : rightB (v : Nat) ([(i, z, 0)].map mkSg) = true := by
  unfold rightB
  simp only [List.map_cons, List.map_nil, rightS, mkSg, Bool.and_eq_true, Bool.not_eq_true', Bool.or_eq_false_iff, decide_eq_true_eq, decide_eq_false_iff_not, and_true, List.length_singleton]
  omega
/-- A Next behind the newest manifest: it is laid, or not; that it is laid is told, or not. -/
theorem once_next {st : Rem} {mv : Nat} (h : OInv st.m mv) (hm : mv < 999999) (i z : Nat) (hi : i ≤ 999999) (hz : z ≤ 1048576) :
    (OInv (pubNext st mv [⟨i, z, 0⟩]).1.m (mv + 1) ∧ (∃ bb, look (pubNext st mv [⟨i, z, 0⟩]).1.m (mnf ((mv + 1 : Nat) : Int)) = some bb ∧ readR (L bb) = (some (mv + 1, [(i, z, 0)]), 0)) ∧ ((pubNext st mv [⟨i, z, 0⟩]).2 = ((((mv + 1 : Nat) : Int), [⟨i, z, 0⟩]), 0) ∨ (pubNext st mv [⟨i, z, 0⟩]).2 = ((0, []), 9))) ∨
    ((pubNext st mv [⟨i, z, 0⟩]).1.m = st.m ∧ (pubNext st mv [⟨i, z, 0⟩]).2 = ((0, []), 9)) := by
  have hw : wrap64 ((mv : Int) + 1) = ((mv + 1 : Nat) : Int) := by rw [wrap64_in (by omega) (by omega)]; omega
  have hr := one_right (v := mv + 1) (by omega) (by omega) hi hz
  have hb : bytesR ((mv + 1 : Nat) : Int) [(⟨i, z, 0⟩ : SgI)] = (B (sealS (bodyS (mv + 1) [(i, z, 0)])), 0) := by
    unfold bytesR
    have hr' : rightB ((mv + 1 : Nat) : Int) [(⟨i, z, 0⟩ : SgI)] = true := hr
    rw [if_pos hr']
    rfl
  have hrd := readR_put (v := mv + 1) (l := [(i, z, 0)]) hr (fun p hp => by rw [List.mem_singleton.1 hp]; show 0 ≤ _; omega)
  have hsz := one_bytes (mv + 1) (i, z, 0)
  obtain ⟨bb, hbb⟩ : ∃ bb, B (sealS (bodyS (mv + 1) [(i, z, 0)])) = bb := ⟨_, rfl⟩
  rw [hbb] at hb hsz
  have hrd' : readR (L bb) = (some (mv + 1, [(i, z, 0)]), 0) := by rw [← hbb, L_B]; exact hrd
  obtain ⟨k, hk⟩ : ∃ k, mnf ((mv + 1 : Nat) : Int) = k := ⟨_, rfl⟩
  have habs : ∀ p ∈ st.m, p.1 ≠ k := fun p hp e => by
    obtain ⟨v, s, v1, v2, v3, _⟩ := h.all p hp
    have := mnf_inj (a := v) (b := mv + 1) v1 (by omega) (by omega) (by omega) (by rw [← v3, e, hk])
    omega
  have hno : look st.m k = none := look_none habs
  have hput : Thw.put st.m k bb = st.m ++ [(k, bb)] := put_none habs
  have hlk : look (Thw.put st.m k bb) k = some bb := look_put_same _ _ _
  have hinv : OInv (Thw.put st.m k bb) (mv + 1) := by
    refine ⟨nodup_put h.nd (fun e => by obtain ⟨p, hp, e2⟩ := List.mem_map.1 e; exact habs p hp e2) bb, fun p hp => ?_, Or.inr ?_⟩
    · rw [hput] at hp
      rcases List.mem_append.1 hp with hp | hp
      · obtain ⟨v, s, v1, v2, v3⟩ := h.all p hp
        exact ⟨v, s, v1, by omega, v3⟩
      · rw [List.mem_singleton.1 hp]
        exact ⟨mv + 1, (i, z, 0), by omega, Nat.le_refl _, hk.symm, hrd', hsz⟩
    · rw [hput, hk, List.map_append]
      exact List.mem_append.2 (Or.inr (List.mem_singleton.2 rfl))
  have hX : pubNext st mv [⟨i, z, 0⟩] = (if (st.putNew k bb).2 = 0 then ((st.putNew k bb).1, (((mv + 1 : Nat) : Int), [⟨i, z, 0⟩]), 0)
      else if ((st.putNew k bb).1.get k).2.2 = 0 ∧ ((st.putNew k bb).1.get k).2.1 = bb then (((st.putNew k bb).1.get k).1, (((mv + 1 : Nat) : Int), [⟨i, z, 0⟩]), 0)
      else (((st.putNew k bb).1.get k).1, (0, []), (st.putNew k bb).2)) := by
    unfold pubNext
    rw [hw, hb, hk]
    simp only
    rw [if_neg (by decide)]
  rw [hX, hk]
  by_cases hf1 : st.fate = 1
  · right
    have hp : st.putNew k bb = (st.next, 9) := by unfold Rem.putNew; rw [if_pos hf1]
    have hg : (st.next.get k).2.2 ≠ 0 := by
      unfold Rem.get
      split
      · show (9 : Int) ≠ 0; decide
      · rw [show look st.next.m k = none from hno]; show (5 : Int) ≠ 0; decide
    rw [hp]
    simp only
    rw [if_neg (by decide), if_neg (fun e => hg e.1)]
    exact ⟨by show (st.next.get k).1.m = _; rw [get_m]; rfl, rfl⟩
  · left
    have hp1 : (st.putNew k bb).1.m = Thw.put st.m k bb := by unfold Rem.putNew; rw [if_neg hf1, hno]; rfl
    have hp2 : (st.putNew k bb).2 = if st.fate = 2 then 9 else 0 := by unfold Rem.putNew; rw [if_neg hf1, hno]; rfl
    generalize st.putNew k bb = pn at hp1 hp2 ⊢
    obtain ⟨p1, p2⟩ := pn
    simp only at hp1 hp2 ⊢
    by_cases hp0 : p2 = 0
    · rw [if_pos hp0]
      simp only
      rw [hp1]
      exact ⟨hinv, ⟨bb, hlk, hrd'⟩, Or.inl trivial⟩
    · have hp9 : p2 = 9 := by
        rw [hp2] at hp0 ⊢
        split at hp0
        · rename_i h2; rw [if_pos h2]
        · exact absurd rfl hp0
      rw [if_neg hp0]
      split
      · simp only
        rw [get_m, hp1]
        exact ⟨hinv, ⟨bb, hlk, hrd'⟩, Or.inl trivial⟩
      · simp only
        rw [get_m, hp1, hp9]
        exact ⟨hinv, ⟨bb, hlk, hrd'⟩, Or.inr rfl⟩
theorem put_len (m : Fls) (k b : ByteArray) : (Thw.put m k b).length ≤ m.length + 1 := by
  unfold Thw.put
  split
  · rw [List.length_map]; omega
  · rw [List.length_append]; simp
theorem rputNew_m (st : Rem) (k b : ByteArray) : (st.putNew k b).1.m = st.m ∨ (st.putNew k b).1.m = Thw.put st.m k b := by
  unfold Rem.putNew
  split
  · exact Or.inl rfl
  · cases look st.m k with
    | none => exact Or.inr rfl
    | some v => exact Or.inl rfl
theorem next_m (st : Rem) (v : Int) (l : List SgI) : (pubNext st v l).1.m = st.m ∨ (pubNext st v l).1.m = Thw.put st.m (mnf (wrap64 (v + 1))) (bytesR (wrap64 (v + 1)) l).1 := by
  have h := rputNew_m st (mnf (wrap64 (v + 1))) (bytesR (wrap64 (v + 1)) l).1
  unfold pubNext
  split
  · exact Or.inl rfl
  · split
    · exact h
    · split
      · simp only [get_m]; exact h
      · simp only [get_m]; exact h
theorem next_len (st : Rem) (v : Int) (l : List SgI) : (pubNext st v l).1.m.length ≤ st.m.length + 1 := by
  rcases next_m st v l with h | h
  · rw [h]; omega
  · rw [h]; exact put_len _ _ _
theorem latStep_m (st : Rem) (k : ByteArray) : (latStep st k).1.m = st.m := by
  unfold latStep
  split
  · rfl
  · split
    · exact get_m _ _
    · split
      · split
        · split
          · exact get_m _ _
          · exact get_m _ _
        · exact get_m _ _
      · exact get_m _ _
theorem latRun_m : ∀ (l : List ByteArray) (st : Rem), (latRun st l).1.m = st.m
  | [], st => rfl
  | k :: l, st => by
    rw [latRun]
    split
    · rw [latRun_m l, latStep_m]
    · exact latStep_m st k
theorem lat_m (st : Rem) : (pubLatest st).1.m = st.m := by
  unfold pubLatest
  split
  · rfl
  · unfold latEnd
    split
    · exact latRun_m _ _
    · exact latRun_m _ _
theorem RLaw.put2 {w V : World} {T : Nat → Prop} {r : Nat} {x : Rem} (h : RLaw w r x V T) {g : Nat} (hg : w.heap.size ≤ g) (hn : ¬ T g) (u0 u1 : Value) : RLaw w r x ((V.setCell ⟨g, 0, none⟩ u0).setCell ⟨g, 1, none⟩ u1) T := by
  have f3 : Frm (fun i => i = g) V ((V.setCell ⟨g, 0, none⟩ u0).setCell ⟨g, 1, none⟩ u1) := ((Frm.refl (fun i => i = g) V).setCell (Or.inl rfl) _).setCell (Or.inl rfl) _
  exact ⟨h.at_.frm f3 (fun k hk e => hn (e ▸ hk)), fun k hk => ⟨(h.sub k hk).1, Nat.lt_of_lt_of_le (h.sub k hk).2 f3.size⟩, (h.bel.setCell (p := ⟨g, 0, none⟩) hg u0).setCell (p := ⟨g, 1, none⟩) hg u1⟩
/-- A row of segments is none of a manifest's box. -/
theorem R_put2 {V : World} {base g : Nat} {T : Nat → Prop} {v : Value} {xs : List SgI} {v0 v1 : Value} (h : Kd.R k45 45 V base (fun k => ¬ T k) v xs) (hb : V.heap[g]? = some (.cells #[v0, v1] 25)) (u0 u1 : Value) :
    Kd.R k45 45 ((V.setCell ⟨g, 0, none⟩ u0).setCell ⟨g, 1, none⟩ u1) base (fun k => ¬ T k) v xs :=
  Kd.R_mono (Kd.R_step (Kd.R_types h hb (by decide)) (fun k hk _ => by rw [Below.heap_setCell _ _ _ _ hk.2, Below.heap_setCell _ _ _ _ hk.2])) (fun _ h => h.1)
end Go.Proofs.YtlnbekaldemebaaGreatDoor.Thw
/-! ## Layer 13 (publish): the law PublishOnce (printed by gen13o.py). -/
namespace Go.Proofs.YtlnbekaldemebaaGreatDoor.Thw
open Go Go.RowKit Go.Maps Go.Proofs.YtlnbekaldemebaaGreatDoor.Print Go.Proofs.YtlnbekaldemebaaGreatDoorW.PrintWords Go.Proofs.YtlnbekaldemebaaGreatDoorW.PrintLast Go.Proofs.YtlnbekaldemebaaGreatDoorW.PrintMore
set_option linter.unusedVariables false
set_option linter.unusedSimpArgs false
def once12T : Bool × List (List Nat × List Nat) := (true, [([], []), ([], []), ([], []), ([], []), ([], []), ([3, 4], [3, 4]), ([5], [5]), ([2, 6], [2, 6]), ([7], [7]), ([0, 1, 8], [0, 1, 8]), ([9], [9]), ([10], [10]), ([10], [10]), ([], []), ([13, 11, 9, 0, 1, 2, 3, 4, 5, 6, 7, 8, 9, 10, 11, 13], [11, 13]), ([12, 14, 0, 1, 2, 3, 4, 5, 6, 7, 8, 9, 10, 11, 12, 13, 14], [12])])
def once12B : List Nat := [0, 0, 0, 0, 0, 24, 56, 124, 252, 511, 1023, 2047, 2047, 0, 12287, 32767]
theorem once12tab : rtab .any (opsOf Tryz.f4 12) = once12T := by kernel_rfl
theorem once12bits : waitsOk once12T.2 once12B = true := by kernel_rfl
theorem C_intAt {w : World} {A : Option Addr} {xs : List Int} (h : (Kd.int .i64).C w A xs.length xs) {k : Nat} (hk : k < xs.length) : ∃ ad, A = some ad ∧ w.cell? (ad.add k) = some (.int .i64 xs[k]) := by
  obtain ⟨ad, c, e, hl, hK, hc⟩ := ReadsRow.get_ h (0 : Int) (k : Int) (by omega) (by omega)
  have hK' : c = [Value.int .i64 (xs.getD k 0)] := hK
  subst hK'
  have := hc 0 _ rfl
  refine ⟨ad, e, ?_⟩
  simpa [Kd.int, Kd.scalar, List.getD_eq_getElem?_getD, List.getElem?_eq_getElem hk] using this
theorem two_far {w : World} {g g' : Nat} {o : Obj} (h : w.heap[g]? = some o) (hne : g ≠ g') (u0 u1 : Value) : ((w.setCell ⟨g', 0, none⟩ u0).setCell ⟨g', 1, none⟩ u1).heap[g]? = some o := by
  rw [Below.heap_setCell _ _ _ _ hne, Below.heap_setCell _ _ _ _ hne]; exact h
set_option maxHeartbeats 25600000 in
set_option maxRecDepth 100000 in
theorem once_walk (A0 : Option Addr) (c0 : Nat) (l0 : List Int) (A1 : Option Addr) (c1 : Nat) (l1 : List (List Int)) (w : World) (hL : LaidW w)
    (hr0 : (Kd.int .i64).C w A0 l0.length l0) (hc0 : l0.length ≤ c0) (hr1 : (Kd.slice 3 (Kd.int .i64)).C w A1 l1.length l1) (hc1 : l1.length ≤ c1) :
    Calls Tryz.prog 4 #[.slice A0 l0.length c0, .slice A1 l1.length c1] w fun e w' => e = .returned (.bool true) ∧ Below w.heap.size w w' := by
  have HL := Aside0.mk hL
  have HR0 := Aside0.mk hr0
  have HR1 := Aside0.mk hr1
  clear hL hr0 hr1
  go_enter Tryz.func4, Tryz.ntmps4
  go_wp2_with fail
  refine (awake13.calls w HL.out).mono ?_
  rintro e w1 ⟨rfl, b1⟩
  have B1 := Aside0.mk b1
  clear b1
  go_wp2_with fail
  refine (remote_New.calls w1).mono ?_
  rintro e w2 ⟨r, rfl, h2, b2⟩
  have S2 := Aside0.mk (show RLaw w r ⟨[], [], 0⟩ w2 (fun k => w1.heap.size ≤ k ∧ k < w2.heap.size) from ⟨h2.mono fun k hk hge => ⟨hge, hk⟩, fun k hk => ⟨Nat.le_trans B1.out.size hk.1, hk.2⟩, B1.out.trans (b2.mono B1.out.size)⟩)
  clear h2 b2 B1
  by_cases h20 : 20 < l0.length
  · have d20 : decide ((20 : Int) < (l0.length : Int)) = true := decide_eq_true (by omega)
    go_wp2_with fail
    go_ret
    exact ⟨rfl, S2.out.bel⟩
  have d20 : decide ((20 : Int) < (l0.length : Int)) = false := decide_eq_false (by omega)
  by_cases hlt : l1.length < l0.length
  · have dlt : decide (l1.length < l0.length) = true := decide_eq_true hlt
    go_wp2_with fail
    go_ret
    exact ⟨rfl, S2.out.bel⟩
  have dlt : decide (l1.length < l0.length) = false := decide_eq_false hlt
  go_upto_region 6 with (fail)
  obtain ⟨T2, S2⟩ : ∃ T2, Aside0 (RLaw w r ⟨[], [], 0⟩ w2 T2) := ⟨_, S2⟩
  have S3 := Aside0.mk (S2.out.below (below_alloc (Below.refl _ _) (.cells #[.int .i64 0, .slice none 0 0] 25)))
  have XM := Aside0.mk (blk_new w2 (.cells #[.int .i64 0, .slice none 0 0] 25))
  have NM := Aside0.mk (S2.out.not (Nat.le_refl w2.heap.size))
  have HGM := Aside0.mk S2.out.bel.size
  obtain ⟨gm, hgm⟩ : ∃ g, w2.heap.size = g := ⟨_, rfl⟩
  rw [hgm] at XM NM HGM ⊢
  generalize w2.alloc (.cells #[.int .i64 0, .slice none 0 0] 25) = w3 at S3 XM ⊢
  clear hgm
  go_wp2_with fail
  go_loopw [8] (fun v8 wr => ∃ (i : Nat) (st : Rem) (T : Nat → Prop) (mv : Nat) (Am : Option Addr) (nm cm : Nat), v8 = .int .i64 (i : Nat) ∧ i ≤ l0.length ∧ Aside0 (RLaw w r st wr T) ∧ Aside0 (OInv st.m mv ∧ mv ≤ i ∧ st.m.length ≤ i) ∧ Aside0 (wr.heap[gm]? = some (.cells #[.int .i64 (mv : Nat), .slice Am nm cm] 25)) ∧ Aside0 (¬ T gm)) (fun v8 _ => l0.length - (intOf v8).toNat)
  case atStart => exact ⟨0, _, _, 0, none, 0, 0, rfl, Nat.zero_le _, S3, ⟨⟨List.nodup_nil, (fun p hp => by cases hp), Or.inl rfl⟩, Nat.le_refl _, Nat.le_refl _⟩, XM, NM⟩
  case round =>
    obtain ⟨i, st, T, mv, Am, nm, cm, rfl, hi, S4, HO, XM4, NM4⟩ := hrel
    by_cases hil : i < l0.length
    · have d3 : decide ((i : Int) < (l0.length : Int)) = true := decide_eq_true (by omega)
      obtain ⟨ad0, rfl, x0⟩ := C_intAt (Kd.C_below HR0.out S4.out.bel) hil
      obtain ⟨ad1, A', c', rfl, y0, hyc, hyC⟩ := row_at (Kd.C_below HR1.out S4.out.bel) i l1[i] (List.getElem?_eq_getElem (by omega))
      obtain ⟨z, hz⟩ : ∃ z, l0[i] = z := ⟨_, rfl⟩
      obtain ⟨xs, hxs⟩ : ∃ xs, l1[i]'(by omega) = xs := ⟨_, rfl⟩
      rw [hz] at x0
      rw [hxs] at y0 hyc hyC
      have X1 := Aside0.mk (show ∀ W, Below w.heap.size w W → W.cell? (ad0.add i) = some (.int .i64 z) from fun W hW => by
        obtain ⟨ad0', e, x⟩ := C_intAt (Kd.C_below HR0.out hW) hil
        cases e
        rw [hz] at x
        exact x)
      have HY := Aside0.mk hyC
      have i0 : 0 ≤ (i : Int) := by omega
      have i1 : (i : Int) < (l0.length : Int) := by omega
      have i2 : (i : Int) < (l1.length : Int) := by omega
      clear hz hxs hyC
      by_cases hz0 : z < 0
      · have d4 : decide (z < 0) = true := decide_eq_true (by omega)
        go_wp2_with fail
        go_ret
        exact ⟨rfl, S4.out.bel⟩
      have d4 : decide (z < 0) = false := decide_eq_false (by omega)
      by_cases hz1 : 1000 < z
      · have d5 : decide (1000 < z) = true := decide_eq_true (by omega)
        go_wp2_with fail
        go_ret
        exact ⟨rfl, S4.out.bel⟩
      have d5 : decide (1000 < z) = false := decide_eq_false (by omega)
      by_cases hx5 : 50 < xs.length
      · have d6 : decide ((50 : Int) < (xs.length : Int)) = true := decide_eq_true (by omega)
        go_wp2_with fail
        go_ret
        exact ⟨rfl, S4.out.bel⟩
      have d6 : decide ((50 : Int) < (xs.length : Int)) = false := decide_eq_false (by omega)
      go_wp2_with fail
      refine (remote_Script.calls wr T r st S4.out.at_ A' xs.length c' xs HY.out hyc (by omega)).mono ?_
      rintro e w5 ⟨rfl, h5, f5⟩
      have k5 := S4.out.rst.step h5 f5
      obtain ⟨xm5, nm5⟩ := own_step k5 XM4.out NM4.out
      obtain ⟨T5, S5, HNM5⟩ : ∃ T5, Aside0 (RLaw w r { st with s := xs } w5 T5) ∧ Aside0 (¬ T5 gm) := ⟨_, ⟨S4.out.step k5⟩, ⟨nm5⟩⟩
      have XM5 := Aside0.mk xm5
      have HO5 := Aside0.mk (show OInv ({ st with s := xs } : Rem).m mv ∧ mv ≤ i ∧ ({ st with s := xs } : Rem).m.length ≤ i from HO.out)
      have HZ := Aside0.mk (show 0 ≤ z ∧ z ≤ 1000 from ⟨by omega, by omega⟩)
      clear h5 f5 k5 xm5 nm5 x0 y0 HY S4 HO XM4 NM4
      generalize ({ st with s := xs } : Rem) = st5 at S5 HO5
      go_upto_region 12 with (fail)
      obtain ⟨zn, hzn⟩ : ∃ zn : Nat, z = (zn : Int) := ⟨z.toNat, by omega⟩
      subst hzn
      have HN := Aside0.mk (once_next (st := st5) (mv := mv) HO5.out.1 (by have := HO5.out.2.1; omega) i zn (by omega) (by have := HZ.out; omega))
      have HLN := Aside0.mk (next_len st5 (mv : Nat) [⟨(i : Nat), (zn : Nat), 0⟩])
      have HU := Aside0.mk (show ∀ x ∈ [(⟨(i : Nat), (zn : Nat), 0⟩ : SgI)], U32 x from fun x hx => by rw [List.mem_singleton.1 hx]; exact ⟨Int.le_refl _, by show (0 : Int) ≤ 4294967295; omega⟩)
      have HMV := Aside0.mk (show -9223372036854775808 ≤ ((mv : Nat) : Int) ∧ ((mv : Nat) : Int) ≤ 9223372036854775807 from ⟨by omega, by have := HO5.out.2.1; omega⟩)
      obtain ⟨X, hX⟩ : ∃ X, pubNext st5 (mv : Nat) [⟨(i : Nat), (zn : Nat), 0⟩] = X := ⟨_, rfl⟩
      have HX := Aside0.mk hX
      rw [hX] at HN HLN
      clear hX
      refine region_draw (n := 16) (S := fun W => W.heap[gm]? = some (.cells #[.int .i64 (mv : Nat), .slice Am nm cm] 25) ∧ Below w.heap.size w W) (ds := [14]) #[false, false, false, false, false, false, false, false, false, false, false, false, false, false, false, false] (by kernel_rfl) rfl rfl (fun W => W.heap[gm]? = some (.cells #[.int .i64 (mv : Nat), .slice Am nm cm] 25) ∧ RLaw w r st5 W T5) ⟨blk_drew XM5.out, S5.out.below (below_drew1 (Below.refl _ _))⟩ (fun W h => ⟨h.1, h.2.bel⟩) ?_
      rintro ws ⟨hy1, hy2⟩
      refine with_tabW once12tab once12bits (fun HT_ HW_ => ?_)
      have XMS := Aside0.mk hy1
      have SS := Aside0.mk hy2
      clear hy1 hy2
      refine pure_ (i := 0) (N := some 69) (v := ?_) (a' := ?_) #[true, false, false, false, false, false, false, false, false, false, false, false, false, false, false, false] rfl rfl (any_of HT_.out (by kernel_rfl)) (fun _ _ _ h => h) (Or.inl ⟨by rfl, ?_⟩) ?_ ?_
      rotate_left
      · intro w'
        go_simp
        with_reducible rfl
      rotate_left
      · simp only [Act.put, List.setIfInBounds_toArray, List.set_cons_zero, List.set_cons_succ, i64_w, i32_w]
        rfl
      refine take_ (i := 1) (N := some 70) (v := ?_) (a' := ?_) #[true, true, false, false, false, false, false, false, false, false, false, false, false, false, false, false] rfl rfl (take_ofW HT_.out HW_.out (by kernel_rfl)) (fun _ _ _ h => h) (Or.inl ⟨by rfl, ?_⟩) ⟨XMS.out, SS.out.bel⟩ ?_ ?_
      rotate_left
      · intro w' hW
        obtain ⟨c0', c1', cr'⟩ := cells2m hW.1
        go_simp
        with_reducible rfl
      rotate_left
      · simp only [Act.put, List.setIfInBounds_toArray, List.set_cons_zero, List.set_cons_succ, i64_w, i32_w]
        rfl
      refine pure_ (i := 2) (N := some 71) (v := ?_) (a' := ?_) #[true, true, true, false, false, false, false, false, false, false, false, false, false, false, false, false] rfl rfl (any_of HT_.out (by kernel_rfl)) (fun _ _ _ h => h) (Or.inl ⟨by rfl, ?_⟩) ?_ ?_
      rotate_left
      · intro w'
        go_simp
        with_reducible rfl
      rotate_left
      · simp only [Act.put, List.setIfInBounds_toArray, List.set_cons_zero, List.set_cons_succ, i64_w, i32_w]
        rfl
      refine pure_ (i := 3) (N := some 72) (v := ?_) (a' := ?_) #[true, true, true, true, false, false, false, false, false, false, false, false, false, false, false, false] rfl rfl (any_of HT_.out (by kernel_rfl)) (fun _ _ _ h => h) (Or.inl ⟨by rfl, ?_⟩) ?_ ?_
      rotate_left
      · intro w'
        go_simp
        with_reducible rfl
      rotate_left
      · simp only [Act.put, List.setIfInBounds_toArray, List.set_cons_zero, List.set_cons_succ, i64_w, i32_w]
        rfl
      refine pure_ (i := 4) (N := some 73) (v := ?_) (a' := ?_) #[true, true, true, true, true, false, false, false, false, false, false, false, false, false, false, false] rfl rfl (any_of HT_.out (by kernel_rfl)) (fun _ _ _ h => h) (Or.inl ⟨by rfl, ?_⟩) ?_ ?_
      rotate_left
      · intro w'
        go_simp
        with_reducible rfl
      rotate_left
      · simp only [Act.put, List.setIfInBounds_toArray, List.set_cons_zero, List.set_cons_succ, i64_w, i32_w]
        rfl
      refine pure_ (i := 5) (N := some 74) (v := ?_) (a' := ?_) #[true, true, true, true, true, true, false, false, false, false, false, false, false, false, false, false] rfl rfl (any_of HT_.out (by kernel_rfl)) (fun _ _ _ h => h) (Or.inl ⟨by rfl, ?_⟩) ?_ ?_
      rotate_left
      · intro w'
        go_simp
        with_reducible rfl
      rotate_left
      · simp only [Act.put, List.setIfInBounds_toArray, List.set_cons_zero, List.set_cons_succ, i64_w, i32_w]
        rfl
      refine take_ (i := 6) (N := some 75) (v := ?_) (a' := ?_) #[true, true, true, true, true, true, true, false, false, false, false, false, false, false, false, false] rfl rfl (take_ofW HT_.out HW_.out (by kernel_rfl)) (fun _ _ _ h => h) (Or.inl ⟨by rfl, ?_⟩) ⟨XMS.out, SS.out.bel⟩ ?_ ?_
      rotate_left
      · intro w' hW
        have x0 := X1.out w' hW.2
        go_simp
        with_reducible rfl
      rotate_left
      · simp only [Act.put, List.setIfInBounds_toArray, List.set_cons_zero, List.set_cons_succ, i64_w, i32_w]
        rfl
      refine pure_ (i := 7) (N := some 76) (v := ?_) (a' := ?_) #[true, true, true, true, true, true, true, true, false, false, false, false, false, false, false, false] rfl rfl (any_of HT_.out (by kernel_rfl)) (fun _ _ _ h => h) (Or.inl ⟨by rfl, ?_⟩) ?_ ?_
      rotate_left
      · intro w'
        go_simp
        with_reducible rfl
      rotate_left
      · simp only [Act.put, List.setIfInBounds_toArray, List.set_cons_zero, List.set_cons_succ, i64_w, i32_w]
        rfl
      refine join_ (σ := Value × Value × Value × Value × Value) 2 #[true, true, true, true, true, true, true, true, true, true, true, true, true, true, false, false] (fun s_ => [(77, s_.1), (78, s_.2.1), (68, s_.2.1), (79, s_.2.2.1), (80, s_.2.2.2.1), (9, s_.2.2.2.2)]) (fun (s_ : Value × Value × Value × Value × Value) w' => ∃ (A_ : Option Addr) (c_ g_ : Nat) (T_ : Nat → Prop), s_.2.1 = .tuple #[.agg #[.int .i64 X.2.1.1, .slice A_ X.2.1.2.length c_], .int .i64 X.2.2] ∧ s_.2.2.1 = .agg #[.int .i64 X.2.1.1, .slice A_ X.2.1.2.length c_] ∧ s_.2.2.2.1 = .int .i64 X.2.2 ∧ s_.2.2.2.2 = .pointer (some ⟨g_, 0, none⟩) ∧ Aside0 (RLaw w r X.1 w' T_) ∧ Aside0 (Kd.R k45 45 w' w.heap.size (fun k => ¬ T_ k) (.slice A_ X.2.1.2.length c_) X.2.1.2) ∧ Aside0 (w'.heap[g_]? = some (.cells #[.int .i64 0, .slice none 0 0] 25)) ∧ Aside0 (¬ T_ g_ ∧ g_ ≠ gm ∧ w.heap.size ≤ g_) ∧ Aside0 (w'.heap[gm]? = some (.cells #[.int .i64 (mv : Nat), .slice Am nm cm] 25)) ∧ Aside0 (¬ T_ gm)) ?_ ?_
      rotate_left
      · intro hCont
        refine two_ (i := 8) (j := 13) (Ni := some 77) (Nj := some 9) #[true, true, true, true, true, true, true, true, true, false, false, false, false, false, false, false] #[true, true, true, true, true, true, true, true, false, false, false, false, false, true, false, false] rfl rfl rfl rfl (two_of HT_.out (by kernel_rfl)) (by decide) (by decide) (fun K hK => ?_) (fun K hK => ?_)
        · skip
          refine event_step (v := .slice (some ⟨ws.heap.size, 0, none⟩) 1 1) (w1 := ws.alloc (.cells #[.int .i64 (i : Nat), .int .i64 (zn : Nat), .int .u32 0] 45)) (by rfl) (by first | (go_simp; done) | (go_simp; rfl)) ?_
          have XL := Aside0.mk (blk_new ws (.cells #[.int .i64 (i : Nat), .int .i64 (zn : Nat), .int .u32 0] 45))
          have NL := Aside0.mk (SS.out.not (Nat.le_refl ws.heap.size))
          have SA := Aside0.mk (SS.out.below (below_alloc (Below.refl _ _) (.cells #[.int .i64 (i : Nat), .int .i64 (zn : Nat), .int .u32 0] 45)))
          have XA := Aside0.mk (blk_alloc XMS.out (.cells #[.int .i64 (i : Nat), .int .i64 (zn : Nat), .int .u32 0] 45))
          obtain ⟨gl, hgl⟩ : ∃ g, ws.heap.size = g := ⟨_, rfl⟩
          rw [hgl] at XL NL ⊢
          generalize ws.alloc (.cells #[.int .i64 (i : Nat), .int .i64 (zn : Nat), .int .u32 0] 45) = wsa at SA XA XL ⊢
          clear hgl
          refine hK.out _ _ ⟨XA.out, SA.out.bel⟩ (fun _ => ?_)
          clear hK K
          refine norm_ (a' := ?_) ?_ ?_
          rotate_left
          · show Act.put _ (some 77) _ = _
            simp only [Act.put, List.setIfInBounds_toArray, List.set_cons_zero, List.set_cons_succ, i64_w, i32_w]
            rfl
          refine two_ (i := 9) (j := 13) (Ni := some 78) (Nj := some 9) #[true, true, true, true, true, true, true, true, true, true, false, false, false, false, false, false] #[true, true, true, true, true, true, true, true, true, false, false, false, false, true, false, false] rfl rfl rfl rfl (two_of HT_.out (by kernel_rfl)) (by decide) (by decide) (fun K hK => ?_) (fun K hK => ?_)
          · skip
            refine goes_ Tryz.func14 (by kernel_rfl) rfl #[.pointer (some ⟨r, 0, none⟩), .agg #[.int .i64 (mv : Nat), .slice Am nm cm], .slice (some ⟨gl, 0, none⟩) 1 1] (by rfl) rfl rfl (by (try simp only [List.map_toArray, List.map_cons, List.map_nil]); first | done | rfl) ?_
            refine (pub_Next.calls wsa T5 r st5 SA.out.at_ SA.out.lt (SA.out.laid HL.out) (mv : Nat) HMV.out Am nm cm (some ⟨gl, 0, none⟩) 1 [⟨(i : Nat), (zn : Nat), 0⟩] (fun W f => seg_C (f.keeps XL.out NL.out)) (Nat.le_refl _) (by simp) HU.out).mono ?_
            rintro e wn ⟨A6, c6, T6, rfl, hR6, k6⟩
            rw [HX.out] at k6 hR6 ⊢
            refine ⟨_, rfl, ?_⟩
            have SN := Aside0.mk (SA.out.step k6)
            obtain ⟨xm, nm_⟩ := own_step k6 XA.out HNM5.out
            have XMN := Aside0.mk xm
            have NMN := Aside0.mk nm_
            have RN := Aside0.mk (Kd.R_lower hR6 SA.out.bel.size)
            clear k6 hR6 xm nm_
            refine hK.out _ _ ⟨XMN.out, SN.out.bel⟩ (fun _ => ?_)
            clear hK K
            refine norm_ (a' := ?_) ?_ ?_
            rotate_left
            · show Act.put _ (some 78) _ = _
              simp only [Act.put, List.setIfInBounds_toArray, List.set_cons_zero, List.set_cons_succ, i64_w, i32_w]
              rfl
            refine pure_ (i := 10) (N := some 68) (v := ?_) (a' := ?_) #[true, true, true, true, true, true, true, true, true, true, true, false, false, false, false, false] rfl rfl (any_of HT_.out (by kernel_rfl)) (fun _ _ _ h => h) (Or.inl ⟨by rfl, ?_⟩) ?_ ?_
            rotate_left
            · intro w'
              go_simp
              with_reducible rfl
            rotate_left
            · simp only [Act.put, List.setIfInBounds_toArray, List.set_cons_zero, List.set_cons_succ, i64_w, i32_w]
              rfl
            refine pure_ (i := 11) (N := some 79) (v := ?_) (a' := ?_) #[true, true, true, true, true, true, true, true, true, true, true, true, false, false, false, false] rfl rfl (any_of HT_.out (by kernel_rfl)) (fun _ _ _ h => h) (Or.inl ⟨by rfl, ?_⟩) ?_ ?_
            rotate_left
            · intro w'
              go_simp
              with_reducible rfl
            rotate_left
            · simp only [Act.put, List.setIfInBounds_toArray, List.set_cons_zero, List.set_cons_succ, i64_w, i32_w]
              rfl
            refine pure_ (i := 12) (N := some 80) (v := ?_) (a' := ?_) #[true, true, true, true, true, true, true, true, true, true, true, true, true, false, false, false] rfl rfl (any_of HT_.out (by kernel_rfl)) (fun _ _ _ h => h) (Or.inl ⟨by rfl, ?_⟩) ?_ ?_
            rotate_left
            · intro w'
              go_simp
              with_reducible rfl
            rotate_left
            · simp only [Act.put, List.setIfInBounds_toArray, List.set_cons_zero, List.set_cons_succ, i64_w, i32_w]
              rfl
            refine one_ (i := 13) (N := some 9) #[true, true, true, true, true, true, true, true, true, true, true, true, true, true, false, false] rfl rfl (one_of HT_.out (by kernel_rfl)) (by decide) (fun K hK => ?_)
            refine box_step (by rfl) (N := 9) (by rfl) (by first | (go_simp; done) | (go_simp; rfl)) ?_
            intro gn hgn wb xn bn
            have XN := Aside0.mk xn
            have NN := Aside0.mk (show ¬ _ from SN.out.not (Nat.le_of_eq hgn.symm))
            have NE := Aside0.mk (show gn ≠ gm ∧ w.heap.size ≤ gn from ⟨by have := lt_of_block XMN.out; omega, by have := SN.out.bel.size; omega⟩)
            have SB := Aside0.mk (SN.out.below bn)
            have XB := Aside0.mk (blk_below XMN.out bn)
            have RB := Aside0.mk (Kd.R_below RN.out bn)
            clear xn bn hgn
            refine hK.out _ _ ⟨XB.out, SB.out.bel⟩ (fun _ => ?_)
            clear hK K
            refine norm_ (a' := ?_) ?_ ?_
            rotate_left
            · show Act.put _ (some 9) _ = _
              simp only [Act.put, List.setIfInBounds_toArray, List.set_cons_zero, List.set_cons_succ, i64_w, i32_w]
              rfl
            exact hCont (_, _, _, _, _) _ ⟨A6, c6, gn, T6, rfl, rfl, rfl, rfl, SB, RB, XN, ⟨NN.out, NE.out⟩, XB, NMN⟩
          · skip
            refine box_step (by rfl) (N := 9) (by rfl) (by first | (go_simp; done) | (go_simp; rfl)) ?_
            intro gn hgn wb xn bn
            have XN := Aside0.mk xn
            have NN := Aside0.mk (show ¬ _ from SA.out.not (Nat.le_of_eq hgn.symm))
            have NE := Aside0.mk (show gn ≠ gm ∧ w.heap.size ≤ gn from ⟨by have := lt_of_block XA.out; omega, by have := SA.out.bel.size; omega⟩)
            have SB := Aside0.mk (SA.out.below bn)
            have XB := Aside0.mk (blk_below XA.out bn)
            have XL2 := Aside0.mk (blk_below XL.out bn)
            clear xn bn hgn XL
            rename Aside0 (wb.heap[gl]? = _) => XL
            refine hK.out _ _ ⟨XB.out, SB.out.bel⟩ (fun _ => ?_)
            clear hK K
            refine norm_ (a' := ?_) ?_ ?_
            rotate_left
            · show Act.put _ (some 9) _ = _
              simp only [Act.put, List.setIfInBounds_toArray, List.set_cons_zero, List.set_cons_succ, i64_w, i32_w]
              rfl
            refine one_ (i := 9) (N := some 78) #[true, true, true, true, true, true, true, true, true, true, false, false, false, true, false, false] rfl rfl (one_of HT_.out (by kernel_rfl)) (by decide) (fun K hK => ?_)
            refine goes_ Tryz.func14 (by kernel_rfl) rfl #[.pointer (some ⟨r, 0, none⟩), .agg #[.int .i64 (mv : Nat), .slice Am nm cm], .slice (some ⟨gl, 0, none⟩) 1 1] (by rfl) rfl rfl (by (try simp only [List.map_toArray, List.map_cons, List.map_nil]); first | done | rfl) ?_
            refine (pub_Next.calls wb T5 r st5 SB.out.at_ SB.out.lt (SB.out.laid HL.out) (mv : Nat) HMV.out Am nm cm (some ⟨gl, 0, none⟩) 1 [⟨(i : Nat), (zn : Nat), 0⟩] (fun W f => seg_C (f.keeps XL.out NL.out)) (Nat.le_refl _) (by simp) HU.out).mono ?_
            rintro e wn ⟨A6, c6, T6, rfl, hR6, k6⟩
            rw [HX.out] at k6 hR6 ⊢
            refine ⟨_, rfl, ?_⟩
            have SC := SB
            have XC := XB
            have XNC := XN
            have SN := Aside0.mk (SC.out.step k6)
            obtain ⟨xm, nm_⟩ := own_step k6 XC.out HNM5.out
            obtain ⟨xn2, nn2⟩ := own_step k6 XNC.out NN.out
            have XMN := Aside0.mk xm
            have NMN := Aside0.mk nm_
            have XNN := Aside0.mk xn2
            have NNN := Aside0.mk nn2
            have RN := Aside0.mk (Kd.R_lower hR6 SC.out.bel.size)
            clear k6 hR6 xm nm_ xn2 nn2
            refine hK.out _ _ ⟨XMN.out, SN.out.bel⟩ (fun _ => ?_)
            clear hK K
            refine norm_ (a' := ?_) ?_ ?_
            rotate_left
            · show Act.put _ (some 78) _ = _
              simp only [Act.put, List.setIfInBounds_toArray, List.set_cons_zero, List.set_cons_succ, i64_w, i32_w]
              rfl
            refine pure_ (i := 10) (N := some 68) (v := ?_) (a' := ?_) #[true, true, true, true, true, true, true, true, true, true, true, false, false, true, false, false] rfl rfl (any_of HT_.out (by kernel_rfl)) (fun _ _ _ h => h) (Or.inl ⟨by rfl, ?_⟩) ?_ ?_
            rotate_left
            · intro w'
              go_simp
              with_reducible rfl
            rotate_left
            · simp only [Act.put, List.setIfInBounds_toArray, List.set_cons_zero, List.set_cons_succ, i64_w, i32_w]
              rfl
            refine pure_ (i := 11) (N := some 79) (v := ?_) (a' := ?_) #[true, true, true, true, true, true, true, true, true, true, true, true, false, true, false, false] rfl rfl (any_of HT_.out (by kernel_rfl)) (fun _ _ _ h => h) (Or.inl ⟨by rfl, ?_⟩) ?_ ?_
            rotate_left
            · intro w'
              go_simp
              with_reducible rfl
            rotate_left
            · simp only [Act.put, List.setIfInBounds_toArray, List.set_cons_zero, List.set_cons_succ, i64_w, i32_w]
              rfl
            refine pure_ (i := 12) (N := some 80) (v := ?_) (a' := ?_) #[true, true, true, true, true, true, true, true, true, true, true, true, true, true, false, false] rfl rfl (any_of HT_.out (by kernel_rfl)) (fun _ _ _ h => h) (Or.inl ⟨by rfl, ?_⟩) ?_ ?_
            rotate_left
            · intro w'
              go_simp
              with_reducible rfl
            rotate_left
            · simp only [Act.put, List.setIfInBounds_toArray, List.set_cons_zero, List.set_cons_succ, i64_w, i32_w]
              rfl
            exact hCont (_, _, _, _, _) _ ⟨A6, c6, gn, T6, rfl, rfl, rfl, rfl, SN, RN, XNN, ⟨NNN.out, NE.out⟩, XMN, NMN⟩
        · skip
          refine box_step (by rfl) (N := 9) (by rfl) (by first | (go_simp; done) | (go_simp; rfl)) ?_
          intro gn hgn wb xn bn
          have XN := Aside0.mk xn
          have NN := Aside0.mk (show ¬ _ from SS.out.not (Nat.le_of_eq hgn.symm))
          have NE := Aside0.mk (show gn ≠ gm ∧ w.heap.size ≤ gn from ⟨by have := lt_of_block XMS.out; omega, by have := SS.out.bel.size; omega⟩)
          have SB := Aside0.mk (SS.out.below bn)
          have XB := Aside0.mk (blk_below XMS.out bn)
          clear xn bn hgn
          refine hK.out _ _ ⟨XB.out, SB.out.bel⟩ (fun _ => ?_)
          clear hK K
          refine norm_ (a' := ?_) ?_ ?_
          rotate_left
          · show Act.put _ (some 9) _ = _
            simp only [Act.put, List.setIfInBounds_toArray, List.set_cons_zero, List.set_cons_succ, i64_w, i32_w]
            rfl
          refine one_ (i := 8) (N := some 77) #[true, true, true, true, true, true, true, true, true, false, false, false, false, true, false, false] rfl rfl (one_of HT_.out (by kernel_rfl)) (by decide) (fun K hK => ?_)
          refine event_step (v := .slice (some ⟨wb.heap.size, 0, none⟩) 1 1) (w1 := wb.alloc (.cells #[.int .i64 (i : Nat), .int .i64 (zn : Nat), .int .u32 0] 45)) (by rfl) (by first | (go_simp; done) | (go_simp; rfl)) ?_
          have XL := Aside0.mk (blk_new wb (.cells #[.int .i64 (i : Nat), .int .i64 (zn : Nat), .int .u32 0] 45))
          have NL := Aside0.mk (SB.out.not (Nat.le_refl wb.heap.size))
          have SA := Aside0.mk (SB.out.below (below_alloc (Below.refl _ _) (.cells #[.int .i64 (i : Nat), .int .i64 (zn : Nat), .int .u32 0] 45)))
          have XA := Aside0.mk (blk_alloc XB.out (.cells #[.int .i64 (i : Nat), .int .i64 (zn : Nat), .int .u32 0] 45))
          have XNC := Aside0.mk (blk_alloc XN.out (.cells #[.int .i64 (i : Nat), .int .i64 (zn : Nat), .int .u32 0] 45))
          obtain ⟨gl, hgl⟩ : ∃ g, wb.heap.size = g := ⟨_, rfl⟩
          rw [hgl] at XL NL ⊢
          generalize wb.alloc (.cells #[.int .i64 (i : Nat), .int .i64 (zn : Nat), .int .u32 0] 45) = wba at SA XA XL XNC ⊢
          clear hgl
          refine hK.out _ _ ⟨XA.out, SA.out.bel⟩ (fun _ => ?_)
          clear hK K
          refine norm_ (a' := ?_) ?_ ?_
          rotate_left
          · show Act.put _ (some 77) _ = _
            simp only [Act.put, List.setIfInBounds_toArray, List.set_cons_zero, List.set_cons_succ, i64_w, i32_w]
            rfl
          refine one_ (i := 9) (N := some 78) #[true, true, true, true, true, true, true, true, true, true, false, false, false, true, false, false] rfl rfl (one_of HT_.out (by kernel_rfl)) (by decide) (fun K hK => ?_)
          refine goes_ Tryz.func14 (by kernel_rfl) rfl #[.pointer (some ⟨r, 0, none⟩), .agg #[.int .i64 (mv : Nat), .slice Am nm cm], .slice (some ⟨gl, 0, none⟩) 1 1] (by rfl) rfl rfl (by (try simp only [List.map_toArray, List.map_cons, List.map_nil]); first | done | rfl) ?_
          refine (pub_Next.calls wba T5 r st5 SA.out.at_ SA.out.lt (SA.out.laid HL.out) (mv : Nat) HMV.out Am nm cm (some ⟨gl, 0, none⟩) 1 [⟨(i : Nat), (zn : Nat), 0⟩] (fun W f => seg_C (f.keeps XL.out NL.out)) (Nat.le_refl _) (by simp) HU.out).mono ?_
          rintro e wn ⟨A6, c6, T6, rfl, hR6, k6⟩
          rw [HX.out] at k6 hR6 ⊢
          refine ⟨_, rfl, ?_⟩
          have SC := SA
          have XC := XA
          have SN := Aside0.mk (SC.out.step k6)
          obtain ⟨xm, nm_⟩ := own_step k6 XC.out HNM5.out
          obtain ⟨xn2, nn2⟩ := own_step k6 XNC.out NN.out
          have XMN := Aside0.mk xm
          have NMN := Aside0.mk nm_
          have XNN := Aside0.mk xn2
          have NNN := Aside0.mk nn2
          have RN := Aside0.mk (Kd.R_lower hR6 SC.out.bel.size)
          clear k6 hR6 xm nm_ xn2 nn2
          refine hK.out _ _ ⟨XMN.out, SN.out.bel⟩ (fun _ => ?_)
          clear hK K
          refine norm_ (a' := ?_) ?_ ?_
          rotate_left
          · show Act.put _ (some 78) _ = _
            simp only [Act.put, List.setIfInBounds_toArray, List.set_cons_zero, List.set_cons_succ, i64_w, i32_w]
            rfl
          refine pure_ (i := 10) (N := some 68) (v := ?_) (a' := ?_) #[true, true, true, true, true, true, true, true, true, true, true, false, false, true, false, false] rfl rfl (any_of HT_.out (by kernel_rfl)) (fun _ _ _ h => h) (Or.inl ⟨by rfl, ?_⟩) ?_ ?_
          rotate_left
          · intro w'
            go_simp
            with_reducible rfl
          rotate_left
          · simp only [Act.put, List.setIfInBounds_toArray, List.set_cons_zero, List.set_cons_succ, i64_w, i32_w]
            rfl
          refine pure_ (i := 11) (N := some 79) (v := ?_) (a' := ?_) #[true, true, true, true, true, true, true, true, true, true, true, true, false, true, false, false] rfl rfl (any_of HT_.out (by kernel_rfl)) (fun _ _ _ h => h) (Or.inl ⟨by rfl, ?_⟩) ?_ ?_
          rotate_left
          · intro w'
            go_simp
            with_reducible rfl
          rotate_left
          · simp only [Act.put, List.setIfInBounds_toArray, List.set_cons_zero, List.set_cons_succ, i64_w, i32_w]
            rfl
          refine pure_ (i := 12) (N := some 80) (v := ?_) (a' := ?_) #[true, true, true, true, true, true, true, true, true, true, true, true, true, true, false, false] rfl rfl (any_of HT_.out (by kernel_rfl)) (fun _ _ _ h => h) (Or.inl ⟨by rfl, ?_⟩) ?_ ?_
          rotate_left
          · intro w'
            go_simp
            with_reducible rfl
          rotate_left
          · simp only [Act.put, List.setIfInBounds_toArray, List.set_cons_zero, List.set_cons_succ, i64_w, i32_w]
            rfl
          exact hCont (_, _, _, _, _) _ ⟨A6, c6, gn, T6, rfl, rfl, rfl, rfl, SN, RN, XNN, ⟨NNN.out, NE.out⟩, XMN, NMN⟩
      rintro ⟨v77, v78, v79, v80, v9⟩ wj ⟨A6, c6, gn, T6, hv1, hv2, hv3, hv4, S6, R6, XN6, NN6, XM6, NM6⟩
      simp only at hv1 hv2 hv3 hv4
      subst hv1 hv2 hv3 hv4
      refine norm_ (a' := ?_) ?_ ?_
      rotate_left
      · simp only [putAll, List.foldl_cons, List.foldl_nil, Act.put, List.setIfInBounds_toArray, List.set_cons_zero, List.set_cons_succ]
        rfl
      refine last_ (i := 14) (N := none) #[true, true, true, true, true, true, true, true, true, true, true, true, true, true, true, false] rfl rfl (one_of HT_.out (by kernel_rfl)) (by decide) (fun K hK => ?_)
      obtain ⟨e0, e1', er⟩ := cells2m XN6.out
      refine skip_ (w1 := ?_) (by rfl) rfl ?_ ?_
      rotate_left
      · go_simp
        rfl
      refine hK.out _ _ ?_
      clear hK K
      refine pure_ (i := 15) (N := some 10) (v := ?_) (a' := ?_) #[true, true, true, true, true, true, true, true, true, true, true, true, true, true, true, true] rfl rfl (any_of HT_.out (by kernel_rfl)) (fun _ _ _ h => h) (Or.inl ⟨by rfl, ?_⟩) ?_ ?_
      rotate_left
      · intro w'
        go_simp
        with_reducible rfl
      rotate_left
      · simp only [Act.put, List.setIfInBounds_toArray, List.set_cons_zero, List.set_cons_succ, i64_w, i32_w]
        rfl
      refine done_ (done_of HT_.out (by kernel_rfl)) ?_
      clear e0 e1' er SS XMS S5 XM5 HNM5 HU HX
      have XN7 := Aside0.mk (show ((wj.setCell ⟨gn, 0, none⟩ (.int .i64 X.2.1.1)).setCell ⟨gn, 1, none⟩ (.slice A6 X.2.1.2.length c6)).heap[gn]? = some (.cells #[.int .i64 X.2.1.1, .slice A6 X.2.1.2.length c6] 25) from two_put XN6.out _ _)
      have XM7 := Aside0.mk (show ((wj.setCell ⟨gn, 0, none⟩ (.int .i64 X.2.1.1)).setCell ⟨gn, 1, none⟩ (.slice A6 X.2.1.2.length c6)).heap[gm]? = some (.cells #[.int .i64 (mv : Nat), .slice Am nm cm] 25) from two_far XM6.out (fun e => NN6.out.2.1 e.symm) _ _)
      have S7 := Aside0.mk (show RLaw w r X.1 ((wj.setCell ⟨gn, 0, none⟩ (.int .i64 X.2.1.1)).setCell ⟨gn, 1, none⟩ (.slice A6 X.2.1.2.length c6)) T6 from S6.out.put2 NN6.out.2.2 NN6.out.1 _ _)
      have R7 := Aside0.mk (show Kd.R k45 45 ((wj.setCell ⟨gn, 0, none⟩ (.int .i64 X.2.1.1)).setCell ⟨gn, 1, none⟩ (.slice A6 X.2.1.2.length c6)) w.heap.size (fun k => ¬ T6 k) (.slice A6 X.2.1.2.length c6) X.2.1.2 from R_put2 R6.out XN6.out _ _)
      generalize ((wj.setCell ⟨gn, 0, none⟩ (.int .i64 X.2.1.1)).setCell ⟨gn, 1, none⟩ (.slice A6 X.2.1.2.length c6)) = w7 at XN7 XM7 S7 R7 ⊢
      have NN7 := Aside0.mk (show ¬ T6 gn from NN6.out.1)
      have HGN := Aside0.mk (show w.heap.size ≤ gn ∧ gn ≠ gm from ⟨NN6.out.2.2, NN6.out.2.1⟩)
      clear S6 R6 XN6 XM6 NN6
      go_wp2_with fail
      refine (remote_Script.calls w7 T6 r X.1 S7.out.at_ none 0 0 [] (ints_nil _) (Nat.le_refl _) (by omega)).mono ?_
      rintro e w8 ⟨rfl, h8, f8⟩
      have k8 := S7.out.rst.step h8 f8
      obtain ⟨T8, S8, XM8, NM8, XN8, NN8, R8⟩ : ∃ T8, Aside0 (RLaw w r { X.1 with s := [] } w8 T8) ∧ Aside0 (w8.heap[gm]? = some (.cells #[.int .i64 (mv : Nat), .slice Am nm cm] 25)) ∧ Aside0 (¬ T8 gm) ∧ Aside0 (w8.heap[gn]? = some (.cells #[.int .i64 X.2.1.1, .slice A6 X.2.1.2.length c6] 25)) ∧ Aside0 (¬ T8 gn) ∧ Aside0 (Kd.R k45 45 w8 w.heap.size (fun k => ¬ T8 k) (.slice A6 X.2.1.2.length c6) X.2.1.2) :=
        ⟨_, ⟨S7.out.step k8⟩, ⟨(own_step k8 XM7.out NM6.out).1⟩, ⟨(own_step k8 XM7.out NM6.out).2⟩, ⟨(own_step k8 XN7.out NN7.out).1⟩, ⟨(own_step k8 XN7.out NN7.out).2⟩, ⟨R_step2 R7.out k8⟩⟩
      clear h8 f8 k8 S7 XM7 NM6 XN7 NN7 R7
      have HLT := Aside0.mk (fun mv' (h : OInv X.1.m mv') (hm : mv' ≤ 999999) => once_latest (st := { X.1 with s := [] }) (mv := mv') h hm rfl)
      have HFIT := Aside0.mk (show Fit 1000000 X.1.m by
        rcases HN.out with ⟨h1, _⟩ | ⟨h1, _⟩
        · exact h1.fit (by have := HO5.out.2.1; omega)
        · rw [h1]; exact HO5.out.1.fit (by have := HO5.out.2.1; omega))
      have HLM := Aside0.mk (lat_m { X.1 with s := [] })
      go_wp2_with fail
      refine (pub_Latest.calls w8 T8 r { X.1 with s := [] } S8.out.at_ S8.out.lt (S8.out.laid HL.out) (by have := HLN.out; have := HO5.out.2.2; show X.1.m.length ≤ 1000000; omega) HFIT.out.names HFIT.out.look).mono ?_
      rintro e w9 ⟨A9, c9, T9, rfl, hR9, k9⟩
      generalize pubLatest { X.1 with s := [] } = Y at hR9 k9 HLT HLM ⊢
      have S9 := Aside0.mk (S8.out.step k9)
      have XM9 := Aside0.mk (own_step k9 XM8.out NM8.out).1
      have NM9 := Aside0.mk (own_step k9 XM8.out NM8.out).2
      have XN9 := Aside0.mk (own_step k9 XN8.out NN8.out).1
      have R9 := Aside0.mk (R_step2 R8.out k9)
      have Q9 := Aside0.mk (Kd.R_lower hR9 S8.out.bel.size)
      clear k9 hR9 S8 XM8 NM8 XN8 NN8 R8
      have HMI := Aside0.mk HO5.out.2.1
      have HLL := Aside0.mk (show Y.1.m.length ≤ i + 1 by rw [HLM.out]; have := HLN.out; have := HO5.out.2.2; omega)
      rw [← HLM.out] at HN HLT
      obtain ⟨st9, ⟨yv, yl⟩, ye⟩ := Y
      obtain ⟨x1, ⟨xv, xl⟩, xe⟩ := X
      simp only at HN HLT S9 XN9 R9 Q9 HLL ⊢
      clear HLM HLN HFIT
      have hwm : IntKind.i64.wrap ((mv : Int) + 1) = (mv : Int) + 1 := IntWalk.i64_in _ (by have := HMI.out; omega)
      rcases HN.out with ⟨hinv, ⟨bb, hlk, hrd⟩, hx⟩ | ⟨hm, hx⟩
      · have hY : yv = (mv : Int) + 1 ∧ yl = [(⟨(i : Nat), (zn : Nat), 0⟩ : SgI)] ∧ ye = 0 := by
          rcases HLT.out (mv + 1) hinv (by have := HMI.out; omega) with ⟨h0, _⟩ | ⟨_, b, s, h1, h2, h3⟩
          · omega
          · rw [hlk] at h1
            cases h1
            rw [hrd] at h2
            cases h2
            injection h3 with h3 h4
            injection h3 with h3 h5
            exact ⟨by rw [h3]; omega, h5, h4⟩
        obtain ⟨rfl, rfl, rfl⟩ := hY
        have HI := Aside0.mk hinv
        rcases hx with hx | hx
        · injection hx with hx h4
          injection hx with hx h5
          obtain rfl : xv = (mv : Int) + 1 := by rw [hx]; omega
          subst h4 h5
          clear hx hinv hlk hrd HN HLT HO5
          simp only [List.length_singleton] at XN9 R9 Q9 ⊢
          obtain ⟨c0', c1', cr'⟩ := cells2m (blk_alloc XM9.out (.cells #[.int .i64 ((mv : Int) + 1), .slice A9 1 c9] 25))
          have hne : ¬ gm = w9.heap.size := by have := lt_of_block XM9.out; omega
          have hne' : ¬ w9.heap.size = gm := fun e => hne e.symm
          go_upto_region 16 with (fail)
          obtain ⟨gx, hgx⟩ : ∃ g, w9.heap.size = g := ⟨_, rfl⟩
          have XX := Aside0.mk (blk_new w9 (.cells #[.int .i64 ((mv : Int) + 1), .slice A9 1 c9] 25))
          have SX := Aside0.mk (S9.out.below (below_alloc (Below.refl _ _) (.cells #[.int .i64 ((mv : Int) + 1), .slice A9 1 c9] 25)))
          have XMX := Aside0.mk (blk_alloc XM9.out (.cells #[.int .i64 ((mv : Int) + 1), .slice A9 1 c9] 25))
          have XNX := Aside0.mk (blk_alloc XN9.out (.cells #[.int .i64 ((mv : Int) + 1), .slice A9 1 c9] 25))
          have RX := Aside0.mk (Kd.R_alloc R9.out (.cells #[.int .i64 ((mv : Int) + 1), .slice A9 1 c9] 25))
          have QX := Aside0.mk (Kd.R_alloc Q9.out (.cells #[.int .i64 ((mv : Int) + 1), .slice A9 1 c9] 25))
          rw [hgx] at XX ⊢
          generalize w9.alloc (.cells #[.int .i64 ((mv : Int) + 1), .slice A9 1 c9] 25) = w10 at XX SX XMX XNX RX QX ⊢
          clear hgx S9 XM9 XN9 R9 Q9 c0' c1' cr' hne hne'
          have hneq : ∀ w, (binOp BinOp.neq 45 (.agg #[.int .i64 (i : Nat), .int .i64 (zn : Nat), .int .u32 0]) (.agg #[.int .i64 (i : Nat), .int .i64 (zn : Nat), .int .u32 0])).run Tryz.prog w = .ok (.bool false) w := fun w => by
            simp [binOp, Op.equal, Op.maxDepth, eqSeg 9998 w]
          refine region_still (by kernel_rfl) (by kernel_rfl) (fun W => Below w10.heap.size w10 W) ((Below.refl _ _).drew) ?_
          rintro w11 b11
          have S11 := Aside0.mk (SX.out.below b11)
          have XM11 := Aside0.mk (blk_below XMX.out b11)
          have XN11 := Aside0.mk (blk_below XNX.out b11)
          obtain ⟨m0, m1', mf⟩ := cells2m XM11.out
          obtain ⟨n0, n1, nf⟩ := cells2m XN11.out
          obtain ⟨q0, q1, qf⟩ := cells2m (blk_below XX.out b11)
          have x0 := X1.out w11 S11.out.bel
          obtain ⟨ad6, rfl, k0, k1, k2⟩ := at_T45 (Kd.R_reads' (Kd.R_below RX.out b11)).2.2 0 (by omega) (by simp)
          obtain ⟨ad9, rfl, p0, p1, p2⟩ := at_T45 (Kd.R_reads' (Kd.R_below QX.out b11)).2.2 0 (by omega) (by simp)
          have hrd : rd_T45 [(⟨(i : Nat), (zn : Nat), 0⟩ : SgI)] 0 = ⟨(i : Nat), (zn : Nat), 0⟩ := rfl
          rw [hrd] at k0 k1 k2 p0 p1 p2
          simp only [Int.toNat_zero, Nat.zero_mul] at k0 k1 k2 p0 p1 p2
          have e6 : ad6.add 0 = ad6 := by unfold Addr.add; split <;> simp_all
          have e9 : ad9.add 0 = ad9 := by unfold Addr.add; split <;> simp_all
          rw [e6] at k0 k1 k2
          rw [e9] at p0 p1 p2
          have hi64 : IntKind.i64.wrap (mv : Int) = (mv : Int) := IntWalk.i64_in _ (by have := HMI.out; omega)
          clear b11 RX QX XX XMX XNX SX hrd e6 e9
          refine WS.out ?_
          repeat (first | refine ws_want (v := _) (a' := _) (by rfl) (by go_simp; rfl) (by simp only [Act.put, List.setIfInBounds_toArray, List.set_cons_zero, List.set_cons_succ]; rfl) ?_ | refine ws_skip (a' := _) (by rfl) (by simp only [Act.put, List.setIfInBounds_toArray, List.set_cons_zero, List.set_cons_succ]; rfl) ?_)
          refine ws_nil ?_
          go_wp2_with fail
          go_roundw
          case rel => exact ⟨i + 1, st9, T9, mv + 1, some ad6, 1, c6, by go_num, by omega, ⟨S11.out.put2 HGM.out NM9.out _ _⟩, ⟨HI.out, by have := HMI.out; omega, by have := HLL.out; omega⟩, ⟨two_put XM11.out _ _⟩, NM9⟩
          case measure => simp [intOf]; omega
        · injection hx with hx h4
          injection hx with hx h5
          subst hx h4 h5
          clear hinv hlk hrd HN HLT HO5
          simp only [List.length_singleton, List.length_nil] at XN9 R9 Q9 ⊢
          obtain ⟨c0', c1', cr'⟩ := cells2m (blk_alloc XM9.out (.cells #[.int .i64 ((mv : Int) + 1), .slice A9 1 c9] 25))
          obtain ⟨q0', q1', qr'⟩ := cells2m (blk_new w9 (.cells #[.int .i64 ((mv : Int) + 1), .slice A9 1 c9] 25))
          have hne : ¬ gm = w9.heap.size := by have := lt_of_block XM9.out; omega
          have hne' : ¬ w9.heap.size = gm := fun e => hne e.symm
          go_wp2_with fail
          go_roundw
          case rel => exact ⟨i + 1, st9, T9, mv + 1, A9, 1, c9, by go_num, by omega, ⟨(S9.out.below (below_alloc (Below.refl _ _) _)).put2 HGM.out NM9.out _ _⟩, ⟨HI.out, by have := HMI.out; omega, by have := HLL.out; omega⟩, ⟨two_put (blk_alloc XM9.out _) _ _⟩, NM9⟩
          case measure => simp [intOf]; omega
      · injection hx with hx h4
        injection hx with hx h5
        subst hx h4 h5
        have HO9 := Aside0.mk (show OInv st9.m mv by rw [hm]; exact HO5.out.1)
        have HLT9 := HLT.out mv HO9.out (by have := HMI.out; omega)
        clear HN HLT hm
        rcases HLT9 with ⟨h0, h3⟩ | ⟨h0, b, s, h1, h2, h3⟩
        · injection h3 with h3 h4
          injection h3 with h3 h5
          subst h3 h4 h5
          clear h0 HO5
          simp only [List.length_nil] at XN9 R9 Q9 ⊢
          obtain ⟨c0', c1', cr'⟩ := cells2m (blk_alloc XM9.out (.cells #[.int .i64 0, .slice A9 0 c9] 25))
          obtain ⟨q0', q1', qr'⟩ := cells2m (blk_new w9 (.cells #[.int .i64 0, .slice A9 0 c9] 25))
          have hne : ¬ gm = w9.heap.size := by have := lt_of_block XM9.out; omega
          have hne' : ¬ w9.heap.size = gm := fun e => hne e.symm
          go_wp2_with fail
          go_roundw
          case rel => exact ⟨i + 1, st9, T9, mv, Am, nm, cm, by go_num, by omega, ⟨(S9.out.below (below_alloc (Below.refl _ _) _))⟩, ⟨HO9.out, by have := HMI.out; omega, by have := HLL.out; omega⟩, ⟨blk_alloc XM9.out _⟩, NM9⟩
          case measure => simp [intOf]; omega
        · injection h3 with h3 h4
          injection h3 with h3 h5
          subst h3 h4 h5
          clear h0 HO5 h1 h2
          simp only [List.length_nil, List.length_singleton] at XN9 R9 Q9 ⊢
          obtain ⟨c0', c1', cr'⟩ := cells2m (blk_alloc XM9.out (.cells #[.int .i64 (mv : Int), .slice A9 1 c9] 25))
          obtain ⟨q0', q1', qr'⟩ := cells2m (blk_new w9 (.cells #[.int .i64 (mv : Int), .slice A9 1 c9] 25))
          have hne : ¬ gm = w9.heap.size := by have := lt_of_block XM9.out; omega
          have hne' : ¬ w9.heap.size = gm := fun e => hne e.symm
          go_wp2_with fail
          go_roundw
          case rel => exact ⟨i + 1, st9, T9, mv, A9, 1, c9, by go_num, by omega, ⟨(S9.out.below (below_alloc (Below.refl _ _) _)).put2 HGM.out NM9.out _ _⟩, ⟨HO9.out, by have := HMI.out; omega, by have := HLL.out; omega⟩, ⟨two_put (blk_alloc XM9.out _) _ _⟩, NM9⟩
          case measure => simp [intOf]; omega
    · have d3 : decide ((i : Int) < (l0.length : Int)) = false := decide_eq_false (by omega)
      go_wp2_with fail
      go_ret
      exact ⟨rfl, S4.out.bel⟩
theorem once_wide (A0 : Option Addr) (n0 c0 : Nat) (l0 : List Int) (A1 : Option Addr) (n1 c1 : Nat) (l1 : List (List Int)) (w : World) (K0 : (Kd.slice 3 (Kd.int .i64)).K w l0 [.slice A0 n0 c0]) (y0 : n0 * 8 ≤ 140737488351232) (G0 : l0.length ≤ 9223372036854775807 ∧ ∀ e101 ∈ l0, (Lit.int .i64 e101).wf = true)
    (K1 : (Kd.slice 35 (Kd.slice 3 (Kd.int .i64))).K w l1 [.slice A1 n1 c1]) (y1 : n1 * 24 ≤ 140737488351232) (G1 : l1.length ≤ 9223372036854775807 ∧ ∀ e102 ∈ l1, (e102.length ≤ 9223372036854775807 ∧ ∀ e103 ∈ e102, (Lit.int .i64 e103).wf = true)) (hL : LaidW w) :
    Calls Tryz.prog 4 #[.slice A0 n0 c0, .slice A1 n1 c1] w fun e w' => e = .returned (.bool true) ∧ Below w.heap.size w w' := by
  obtain ⟨A0_, c0_, e0, hc0, hr0⟩ := K0
  simp only [List.cons.injEq, Value.slice.injEq, and_true] at e0
  obtain ⟨rfl, rfl, rfl⟩ := e0
  obtain ⟨A1_, c1_, e1, hc1, hr1⟩ := K1
  simp only [List.cons.injEq, Value.slice.injEq, and_true] at e1
  obtain ⟨rfl, rfl, rfl⟩ := e1
  exact once_walk _ _ l0 _ _ l1 w hL hr0 hc0 hr1 hc1
end Go.Proofs.YtlnbekaldemebaaGreatDoor.Thw
