/- Layer 8 (segment): SegmentTorn's walk. -/
import Derived.Test.YthndpknocofioaaGreatDoorMI8
import Derived.Deep.CutRange
import Derived.Deep.CutBlock
import Derived.BigQuiet
namespace Go.Proofs.YthndpknocofioaaGreatDoor.Thw
open Go Go.RowKit Go.Maps Go.Proofs.YthndpknocofioaaGreatDoor.Print Go.Proofs.YthndpknocofioaaGreatDoorW.PrintWords Go.Proofs.YthndpknocofioaaGreatDoorW.PrintLast Go.Proofs.YthndpknocofioaaGreatDoorW.PrintMore
set_option linter.unusedVariables false
set_option linter.unusedSimpArgs false
abbrev kI : Kd Int := Kd.int .i64
/-- A disk, and three rows apart from it and from one another. -/
structure Tn (w0 w : World) (T TE TA TM : Nat → Prop) (d : Nat) (st : Dsk) (vE vA vM : Value) (es : List Int) (rs : List SR) (ms : List Int) : Prop where
  at_ : At8 w0 w T d st
  e : Kd.R kI 3 w w0.heap.size TE vE es
  a : Kd.R kR 50 w w0.heap.size TA vA rs
  m : Kd.R kI 3 w w0.heap.size TM vM ms
  he : ∀ k, TE k → k < w.heap.size ∧ ¬ T k ∧ ¬ TA k ∧ ¬ TM k
  ha : ∀ k, TA k → k < w.heap.size ∧ ¬ T k ∧ ¬ TM k
  hm : ∀ k, TM k → k < w.heap.size ∧ ¬ T k
section
variable {w0 w w' : World} {T TE TA TM : Nat → Prop} {d : Nat} {st : Dsk} {vE vA vM : Value} {es ms : List Int} {rs : List SR}
theorem Tn.below (h : Tn w0 w T TE TA TM d st vE vA vM es rs ms) (b : Below w.heap.size w w') : Tn w0 w' T TE TA TM d st vE vA vM es rs ms :=
  ⟨h.at_.below b, Kd.R_below h.e b, Kd.R_below h.a b, Kd.R_below h.m b, fun k hk => ⟨Nat.lt_of_lt_of_le (h.he k hk).1 b.size, (h.he k hk).2⟩, fun k hk => ⟨Nat.lt_of_lt_of_le (h.ha k hk).1 b.size, (h.ha k hk).2⟩, fun k hk => ⟨Nat.lt_of_lt_of_le (h.hm k hk).1 b.size, (h.hm k hk).2⟩⟩
theorem Tn.disk {T' : Nat → Prop} {st' : Dsk} (h : Tn w0 w T TE TA TM d st vE vA vM es rs ms) (h' : DskAt w' T' d st') (hT : ∀ k, T' k → gr T w k ∧ k < w'.heap.size) (f : Frm T w w') : Tn w0 w' T' TE TA TM d st' vE vA vM es rs ms := by
  have hn : ∀ k, k < w.heap.size → ¬ T k → ¬ T' k := fun k hk ht ht' => (hT k ht').1.elim ht (fun hle => by omega)
  refine ⟨h.at_.next h' hT f, Kd.R_step h.e (fun k hk hlt => f.block k hlt (h.he k hk).2.1), Kd.R_step h.a (fun k hk hlt => f.block k hlt (h.ha k hk).2.1), Kd.R_step h.m (fun k hk hlt => f.block k hlt (h.hm k hk).2), fun k hk => ?_, fun k hk => ?_, fun k hk => ?_⟩
  · exact ⟨Nat.lt_of_lt_of_le (h.he k hk).1 f.size, hn k (h.he k hk).1 (h.he k hk).2.1, (h.he k hk).2.2⟩
  · exact ⟨Nat.lt_of_lt_of_le (h.ha k hk).1 f.size, hn k (h.ha k hk).1 (h.ha k hk).2.1, (h.ha k hk).2.2⟩
  · exact ⟨Nat.lt_of_lt_of_le (h.hm k hk).1 f.size, hn k (h.hm k hk).1 (h.hm k hk).2⟩
theorem At8.grown {v : Value} (h : At8 w0 w T d st) (hg : w.grownBy w' v.ownBlock) (hv : ∀ k, v.ownBlock = some k → ¬ T k) (hb : Below w0.heap.size w0 w') : At8 w0 w' T d st :=
  ⟨h.at_.frm (S := fun k => v.ownBlock = some k) ⟨hg.os, hg.tape, hg.output, hg.size, fun k hk hn => hg.block k hk (fun e => hn e.symm)⟩ (fun k hk e => hv k e hk), h.lo, fun k hk => Nat.lt_of_lt_of_le (h.hi k hk) hg.size, hb⟩
theorem R_grown {α : Type} {dd : Kd α} {e base : Nat} {ok : Nat → Prop} {v' : Value} {xs : List α} {v : Value} (h : dd.R e w base ok v' xs) (hg : w.grownBy w' v.ownBlock) (hv : ∀ k, v.ownBlock = some k → ¬ ok k) : dd.R e w' base ok v' xs :=
  Kd.R_step h (fun k hk hlt => hg.block k hlt (fun e => hv k e.symm hk))
theorem Tn.app_e {v1 : Value} {es' : List Int} (h : Tn w0 w T TE TA TM d st vE vA vM es rs ms) (hb : Below w0.heap.size w0 w') (hR : Kd.R kI 3 w' w0.heap.size (fun k => TE k ∨ w.heap.size ≤ k) v1 es') (hg : w.grownBy w' vE.ownBlock) :
    Tn w0 w' T (fun k => (TE k ∨ w.heap.size ≤ k) ∧ k < w'.heap.size) TA TM d st v1 vA vM es' rs ms := by
  have ho := h.e.1
  refine ⟨h.at_.grown hg (fun k e => (h.he k (ho k e)).2.1) hb, Kd.R_mono (Kd.R_bound hR) (fun k hk => ⟨hk.1, hk.2.2.1⟩), R_grown h.a hg (fun k e => (h.he k (ho k e)).2.2.1), R_grown h.m hg (fun k e => (h.he k (ho k e)).2.2.2), fun k hk => ?_, fun k hk => ⟨Nat.lt_of_lt_of_le (h.ha k hk).1 hg.size, (h.ha k hk).2⟩, fun k hk => ⟨Nat.lt_of_lt_of_le (h.hm k hk).1 hg.size, (h.hm k hk).2⟩⟩
  rcases hk.1 with h1 | h1
  · exact ⟨hk.2, (h.he k h1).2⟩
  · exact ⟨hk.2, fun h2 => by have := h.at_.hi k h2; omega, fun h2 => by have := (h.ha k h2).1; omega, fun h2 => by have := (h.hm k h2).1; omega⟩
theorem Tn.app_a {v1 : Value} {rs' : List SR} (h : Tn w0 w T TE TA TM d st vE vA vM es rs ms) (hb : Below w0.heap.size w0 w') (hR : Kd.R kR 50 w' w0.heap.size (fun k => TA k ∨ w.heap.size ≤ k) v1 rs') (hg : w.grownBy w' vA.ownBlock) :
    Tn w0 w' T TE (fun k => (TA k ∨ w.heap.size ≤ k) ∧ k < w'.heap.size) TM d st vE v1 vM es rs' ms := by
  have ho := h.a.1
  refine ⟨h.at_.grown hg (fun k e => (h.ha k (ho k e)).2.1) hb, R_grown h.e hg (fun k e h2 => (h.he k h2).2.2.1 (ho k e)), Kd.R_mono (Kd.R_bound hR) (fun k hk => ⟨hk.1, hk.2.2.1⟩), R_grown h.m hg (fun k e => (h.ha k (ho k e)).2.2), fun k hk => ⟨Nat.lt_of_lt_of_le (h.he k hk).1 hg.size, (h.he k hk).2.1, ?_, (h.he k hk).2.2.2⟩, fun k hk => ?_, fun k hk => ⟨Nat.lt_of_lt_of_le (h.hm k hk).1 hg.size, (h.hm k hk).2⟩⟩
  · rintro ⟨h1 | h1, _⟩
    · exact (h.he k hk).2.2.1 h1
    · have := (h.he k hk).1; omega
  · rcases hk.1 with h1 | h1
    · exact ⟨hk.2, (h.ha k h1).2⟩
    · exact ⟨hk.2, fun h2 => by have := h.at_.hi k h2; omega, fun h2 => by have := (h.hm k h2).1; omega⟩
theorem Tn.app_m {v1 : Value} {ms' : List Int} (h : Tn w0 w T TE TA TM d st vE vA vM es rs ms) (hb : Below w0.heap.size w0 w') (hR : Kd.R kI 3 w' w0.heap.size (fun k => TM k ∨ w.heap.size ≤ k) v1 ms') (hg : w.grownBy w' vM.ownBlock) :
    Tn w0 w' T TE TA (fun k => (TM k ∨ w.heap.size ≤ k) ∧ k < w'.heap.size) d st vE vA v1 es rs ms' := by
  have ho := h.m.1
  refine ⟨h.at_.grown hg (fun k e => (h.hm k (ho k e)).2) hb, R_grown h.e hg (fun k e h2 => (h.he k h2).2.2.2 (ho k e)), R_grown h.a hg (fun k e h2 => (h.ha k h2).2.2 (ho k e)), Kd.R_mono (Kd.R_bound hR) (fun k hk => ⟨hk.1, hk.2.2.1⟩), fun k hk => ⟨Nat.lt_of_lt_of_le (h.he k hk).1 hg.size, (h.he k hk).2.1, (h.he k hk).2.2.1, ?_⟩, fun k hk => ⟨Nat.lt_of_lt_of_le (h.ha k hk).1 hg.size, (h.ha k hk).2.1, ?_⟩, fun k hk => ?_⟩
  · rintro ⟨h1 | h1, _⟩
    · exact (h.he k hk).2.2.2 h1
    · have := (h.he k hk).1; omega
  · rintro ⟨h1 | h1, _⟩
    · exact (h.ha k hk).2.2 h1
    · have := (h.ha k hk).1; omega
  · rcases hk.1 with h1 | h1
    · exact ⟨hk.2, (h.hm k h1).2⟩
    · exact ⟨hk.2, fun h2 => by have := h.at_.hi k h2; omega⟩
end
def endsT (ls : List (List Rec)) (i : Nat) : List Int := (List.range i).map fun j => ((framesS (ls.take (j + 1))).length : Int)
def manyT (ls : List (List Rec)) (i : Nat) : List Int := (List.range (i + 1)).map fun j => ((ls.take j).flatten.length : Int)
def allT (ls : List (List Rec)) (i : Nat) : List SR := (ls.take i).flatten.map RS
theorem endsT_succ (ls : List (List Rec)) (i : Nat) : endsT ls (i + 1) = endsT ls i ++ [((framesS (ls.take (i + 1))).length : Int)] := by unfold endsT; rw [List.range_succ, List.map_append]; rfl
theorem manyT_succ (ls : List (List Rec)) (i : Nat) : manyT ls (i + 1) = manyT ls i ++ [((ls.take (i + 1)).flatten.length : Int)] := by unfold manyT; rw [List.range_succ, List.map_append]; rfl
theorem allT_succ {ls : List (List Rec)} {i : Nat} (hi : i < ls.length) : allT ls (i + 1) = allT ls i ++ (ls[i]).map RS := by unfold allT; rw [List.take_succ_eq_append_getElem hi, List.flatten_append, List.map_append]; simp
theorem endsT_len (ls : List (List Rec)) (i : Nat) : (endsT ls i).length = i := by simp [endsT]
theorem manyT_len (ls : List (List Rec)) (i : Nat) : (manyT ls i).length = i + 1 := by simp [manyT]
theorem allT_len (ls : List (List Rec)) (i : Nat) : (allT ls i).length = (ls.take i).flatten.length := by unfold allT; rw [List.length_map]
/-- A number of a row of numbers. -/
theorem int_at {w : World} {base : Nat} {ok : Nat → Prop} {v : Value} {xs : List Int} (h : Kd.R kI 3 w base ok v xs) (i : Nat) (hi : i < xs.length) : ∃ ad c, v = .slice (some ad) xs.length c ∧ w.cell? (ad.add i) = some (.int .i64 xs[i]) := by
  obtain ⟨A, c, rfl, hc, hC⟩ := Kd.R_reads h
  obtain ⟨ad, rfl, hcell⟩ := hC.2.2 (by omega)
  obtain ⟨cc, hl2, hK, hcell⟩ := hcell i xs[i] (List.getElem?_eq_getElem hi)
  have hK' : cc = [Value.int .i64 xs[i]] := hK
  subst hK'
  have := hcell 0 _ rfl
  have e1 : i * kI.sz + 0 = i := by show i * 1 + 0 = i; omega
  rw [e1] at this
  exact ⟨ad, c, rfl, this⟩
/-- An entry of a row of entries. -/
theorem ent_at {w : World} {base : Nat} {ok : Nat → Prop} {v : Value} {E : List Ent} (h : Kd.R kE 52 w base ok v (E.map ES)) (i : Nat) (hi : i < E.length) : ∃ g c, v = .slice (some ⟨g, 0, none⟩) E.length c ∧
    w.cell? ⟨g, i * 5, none⟩ = some (.string (B E[i].key)) ∧ w.cell? ⟨g, i * 5 + 1, none⟩ = some (.int .i64 E[i].off) ∧ w.cell? ⟨g, i * 5 + 2, none⟩ = some (.int .i64 E[i].len) ∧ w.cell? ⟨g, i * 5 + 3, none⟩ = some (.int .u64 (E[i].seq : Int)) ∧ w.cell? ⟨g, i * 5 + 4, none⟩ = some (.bool E[i].gone) := by
  obtain ⟨A, c, rfl, hc, hC⟩ := Kd.R_reads h
  obtain ⟨g, rfl⟩ := R_some h (by rw [List.length_map]; omega)
  obtain ⟨ad, hh, k0, k1, k2, k3, k4⟩ := at_T52 hC (i : Int) (by omega) (by rw [List.length_map]; omega)
  cases hh
  rw [rd_ES E i hi] at k0 k1 k2 k3 k4
  have e0 : ((⟨g, 0, none⟩ : Addr).add ((i : Int).toNat * 5)) = ⟨g, i * 5, none⟩ := by simp [Addr.add]; intro h; omega
  rw [e0] at k0 k1 k2 k3 k4
  exact ⟨g, c, by rw [List.length_map], k0, k1, k2, k3, k4⟩
theorem RecR_some {w : World} {base n c : Nat} {A : Option Addr} {ok : Nat → Prop} {es : List SR} (h : Kd.R kR 50 w base ok (.slice A n c) es) (hx : 0 < es.length) : ∃ g, A = some ⟨g, 0, none⟩ := by
  obtain ⟨hok, inner, ⟨hlen, hown⟩, hrl, hrw⟩ := h
  rcases hown with ⟨hv, h0⟩ | ⟨g', cap, cur, hv, hb, hg, hc1, hc2, hcs, htk⟩
  · omega
  · injection hv with hv1 hv2 hv3
    exact ⟨_, hv1⟩
/-- A record of a row of records. -/
theorem rec_at {w : World} {base : Nat} {ok : Nat → Prop} {v : Value} {l : List Rec} (h : Kd.R kR 50 w base ok v (l.map RS)) (i : Nat) (hi : i < l.length) : ∃ g c, v = .slice (some ⟨g, 0, none⟩) l.length c ∧
    w.cell? ⟨g, i * 4, none⟩ = some (.int .u64 (l[i].seq : Int)) ∧ w.cell? ⟨g, i * 4 + 1, none⟩ = some (.string (B l[i].key)) ∧ w.cell? ⟨g, i * 4 + 2, none⟩ = some (.string (B l[i].val)) ∧ w.cell? ⟨g, i * 4 + 3, none⟩ = some (.bool l[i].gone) := by
  obtain ⟨A, c, rfl, hc, hC⟩ := Kd.R_reads h
  obtain ⟨g, rfl⟩ := RecR_some h (by rw [List.length_map]; omega)
  obtain ⟨ad, hh, k0, k1, k2, k3⟩ := at_T50 hC (i : Int) (by omega) (by rw [List.length_map]; omega)
  cases hh
  have hrd : rd_T50 (l.map RS) (i : Int) = RS l[i] := by unfold rd_T50; simp [hi]
  rw [hrd] at k0 k1 k2 k3
  have e0 : ((⟨g, 0, none⟩ : Addr).add ((i : Int).toNat * 4)) = ⟨g, i * 4, none⟩ := by simp [Addr.add]; intro h; omega
  rw [e0] at k0 k1 k2 k3
  exact ⟨g, c, by rw [List.length_map], k0, k1, k2, k3⟩
def rLast : Rec := ⟨9, [108, 97, 115, 116], [], false⟩
theorem frLast : (frameS [rLast]).2 = 0 := by decide
/-- What is left behind the crash, in plain words. -/
theorem torn_facts {ls : List (List Rec)} (hn : ls.length ≤ 20) (h0 : 0 < ls.length) (h : ∀ l ∈ ls, (frameS l).2 = 0) (kept : Int) : ∃ (c : Nat) (st2 st3 st4 : Dsk) (E : List Ent) (x : Ent) (L2 : List (List Rec)),
    (dkR 262144 (mAt (sgN (1 : Nat)) ls ls.length)).crash [kept] = st2 ∧ (st2.size (sgN (1 : Nat))).1 = c ∧
    segLoad st2 1 = (st3, E, 0) ∧ E.length = (ls.take (wholeS ls c)).flatten.length ∧ st2.Sm 150000 ∧ st3.Sm 150000 ∧
    segWrite st3 1 [rLast] = (st4, [x], 0) ∧ st4.Sm 160000 ∧ segLoad st4 1 = (st4, E ++ [x], 0) ∧
    (∀ i (hi : i < E.length) (hi' : i < ls.flatten.length), segGet st4 1 E[i] = (ls.flatten[i], 0)) ∧ segGet st4 1 x = (rLast, 0) ∧ E.length ≤ ls.flatten.length := by
  have hr : rightN 1 = true := by decide
  have hk : right (sgN (1 : Nat)) = true := right_name 115 1 (by decide)
  have hR : (0 : Int) ≤ 262144 ∧ (262144 : Int) ≤ 1048576 := by decide
  have hm : mAt (sgN (1 : Nat)) ls ls.length = [(sgN (1 : Nat), ⟨B (framesS ls), 0⟩)] := by unfold mAt; rw [if_neg (by omega), List.take_length]
  have hfl := frames_le ls h
  have hgood : GoodF ⟨B (framesS ls), 0⟩ := ⟨Int.le_refl _, by simp, by show (B (framesS ls)).size ≤ _; rw [B_size]; omega⟩
  have hcr := crashN_range [kept] 0 ⟨B (framesS ls), 0⟩ hgood
  obtain ⟨c, hc⟩ : ∃ c : Nat, crashN [kept] 0 ⟨B (framesS ls), 0⟩ = c := ⟨_, (Int.toNat_of_nonneg hcr.1).symm⟩
  rw [hc] at hcr
  simp only [B_size] at hcr
  have hst2 : (dkR 262144 (mAt (sgN (1 : Nat)) ls ls.length)).crash [kept] = dkR 262144 [(sgN (1 : Nat), ⟨B ((framesS ls).take c), c⟩)] := by
    rw [hm, crash_one]
    unfold crashF
    rw [hc]
    have e : (B (framesS ls)).extract 0 (0 + (c : Int)).toNat = B ((framesS ls).take c) := L_inj (by rw [show (0 + (c : Int)).toNat = c by omega, L_extract_front, L_B, L_B])
    simp only
    rw [e, Int.zero_add]
  obtain ⟨s', hlo⟩ := load_cut (R := 262144) (n := 1) (ls := ls) (c := c) (s := (c : Int)) hr h
  have hokW : ∀ l ∈ ls.take (wholeS ls c), (frameS l).2 = 0 := fun l hl => h l (List.mem_of_mem_take hl)
  have hfit := wholeS_fits ls c
  have hok2 : ∀ l ∈ ls.take (wholeS ls c) ++ [[rLast]], (frameS l).2 = 0 := fun l hl => by
    rcases List.mem_append.1 hl with hl | hl
    · exact hokW l hl
    · rw [List.mem_singleton.1 hl]; exact frLast
  have hzl := frame_len frLast
  simp only [List.length_singleton] at hzl
  have hwr := write_frames (R := 262144) (n := 1) (ls := ls.take (wholeS ls c)) (l := [rLast]) hr hk hR (Or.inr rfl : OneK (sgN 1) [(sgN 1, ⟨B (framesS (ls.take (wholeS ls c))), s'⟩)] _ _) frLast (by omega)
  have hx : (ofL (framesS (ls.take (wholeS ls c))).length [[rLast]]).length = 1 := by rw [ofL_length]; rfl
  obtain ⟨x, hx1⟩ := List.length_eq_one_iff.1 hx
  rw [hx1] at hwr
  have hl4 : look (dkR 262144 [(sgN 1, (⟨B (framesS (ls.take (wholeS ls c) ++ [[rLast]])), s'⟩ : DFile))]).m (sgN 1) = some ⟨B (framesS (ls.take (wholeS ls c) ++ [[rLast]])), s'⟩ := by simp [dkR, look]
  have hlo4 := load_whole hr hl4 hok2
  have hE2 : ofL 0 (ls.take (wholeS ls c) ++ [[rLast]]) = ofL 0 (ls.take (wholeS ls c)) ++ [x] := by rw [ofL_append, Nat.zero_add, hx1]
  rw [hE2] at hlo4
  have hf4 : (framesS (ls.take (wholeS ls c) ++ [[rLast]])).length ≤ 150000 := by rw [framesS_append, framesS_one, List.length_append]; omega
  have hpre : (ls.take (wholeS ls c)).flatten.length ≤ ls.flatten.length := by
    conv => rhs; rw [← List.take_append_drop (wholeS ls c) ls]
    rw [List.flatten_append, List.length_append]
    omega
  have hEl : (ofL 0 (ls.take (wholeS ls c))).length = (ls.take (wholeS ls c)).flatten.length := ofL_length _ _
  have hge := fun i hi hi' => get_at (n := 1) hr hl4 hok2 (by omega) i hi hi'
  have hfl2 : (ls.take (wholeS ls c) ++ [[rLast]]).flatten = (ls.take (wholeS ls c)).flatten ++ [rLast] := by simp
  refine ⟨c, _, _, _, ofL 0 (ls.take (wholeS ls c)), x, [], hst2, ?_, hlo, hEl, ?_, ?_, hwr, ?_, hlo4, ?_, ?_, by rw [hEl]; exact hpre⟩
  · simp only [Dsk.size, dkR, look]
    simp only [List.find?_cons, decide_true, Option.map_some, B_size, List.length_take]
    omega
  · refine sm_of (by decide) hR fun p hp => ?_
    rw [List.mem_singleton.1 hp]
    simp only [B_size, List.length_take]
    omega
  · refine sm_of (by decide) hR fun p hp => ?_
    rw [List.mem_singleton.1 hp]
    simp only [B_size]
    omega
  · refine sm_of (by decide) hR fun p hp => ?_
    rw [List.mem_singleton.1 hp]
    simp only [B_size]
    omega
  · intro i hi hi'
    have h1 := hge i (by rw [hE2, List.length_append]; omega) (by rw [hfl2, List.length_append, ← hEl]; omega)
    have e1 : (ofL 0 (ls.take (wholeS ls c) ++ [[rLast]]))[i]'(by rw [hE2, List.length_append]; omega) = (ofL 0 (ls.take (wholeS ls c)))[i] := by
      simp only [hE2]
      exact List.getElem_append_left hi
    have e2 : (ls.take (wholeS ls c) ++ [[rLast]]).flatten[i]'(by rw [hfl2, List.length_append, ← hEl]; omega) = ls.flatten[i] := by
      have h3 : ls.flatten = (ls.take (wholeS ls c)).flatten ++ (ls.drop (wholeS ls c)).flatten := by rw [← List.flatten_append, List.take_append_drop]
      simp only [hfl2]
      rw [List.getElem_append_left (by omega)]
      have : ls.flatten[i]? = some ((ls.take (wholeS ls c)).flatten[i]'(by omega)) := by rw [h3, List.getElem?_append_left (by omega)]; exact List.getElem?_eq_getElem _
      rw [List.getElem?_eq_getElem hi'] at this
      exact (Option.some.inj this).symm
    rw [e1, e2] at h1
    exact h1
  · have h1 := hge (ofL 0 (ls.take (wholeS ls c))).length (by rw [hE2, List.length_append]; simp) (by rw [hfl2, List.length_append, hEl]; simp)
    have e1 : (ofL 0 (ls.take (wholeS ls c) ++ [[rLast]]))[(ofL 0 (ls.take (wholeS ls c))).length]'(by rw [hE2, List.length_append]; simp) = x := by
      simp only [hE2]
      simp
    have e2 : (ls.take (wholeS ls c) ++ [[rLast]]).flatten[(ofL 0 (ls.take (wholeS ls c))).length]'(by rw [hfl2, List.length_append, hEl]; simp) = rLast := by
      simp only [hfl2]
      rw [List.getElem_append_right (by omega)]
      simp [hEl]
    rw [e1, e2] at h1
    exact h1
theorem hne_rec (a : Int) (b c : ByteArray) (d : Bool) (w : World) : (binOp BinOp.neq 50 (.agg #[.int .u64 a, .string b, .string c, .bool d]) (.agg #[.int .u64 a, .string b, .string c, .bool d])).run Tryz.prog w = .ok (.bool false) w := by
  simp [binOp, Op.equal, Op.maxDepth, eqA50 9998 w]
theorem hne_ent (k : ByteArray) (a b c : Int) (d : Bool) (w : World) : (binOp BinOp.neq 52 (.agg #[.string k, .int .i64 a, .int .i64 b, .int .u64 c, .bool d]) (.agg #[.string k, .int .i64 a, .int .i64 b, .int .u64 c, .bool d])).run Tryz.prog w = .ok (.bool false) w := by
  simp [binOp, Op.equal, Op.maxDepth, eqA52 9998 w]
theorem recinfo : (Tryz.prog.info? 50).map (fun i => (i.zero, i.size, i.bytes)) = some (some (.agg #[.int .u64 0, .string ⟨#[]⟩, .string ⟨#[]⟩, .bool false]), 4, 48) := by kernel_rfl
theorem kR_KM {w w' : World} {base : Nat} {ok : Nat → Prop} {x : SR} {cs : List Value} (h : kR.K w x cs) : kR.M w' base ok x cs := by rw [k50_open h]; exact k50_mkM w' base ok x
theorem ent_cells {w : World} {base g n c : Nat} {ok : Nat → Prop} {E : List Ent} (h : Kd.R kE 52 w base ok (.slice (some ⟨g, 0, none⟩) n c) (E.map ES)) (i : Nat) (hi : i < E.length) :
    w.cell? ⟨g, i * 5, none⟩ = some (.string (B E[i].key)) ∧ w.cell? ⟨g, i * 5 + 1, none⟩ = some (.int .i64 E[i].off) ∧ w.cell? ⟨g, i * 5 + 2, none⟩ = some (.int .i64 E[i].len) ∧ w.cell? ⟨g, i * 5 + 3, none⟩ = some (.int .u64 (E[i].seq : Int)) ∧ w.cell? ⟨g, i * 5 + 4, none⟩ = some (.bool E[i].gone) := by
  obtain ⟨g', c', hv, hk⟩ := ent_at h i hi
  cases hv
  exact hk
/-- A row of records is a block. -/
theorem rec_row {w : World} {base n c : Nat} {A : Option Addr} {ok : Nat → Prop} {ls : List (List Rec)} (h : Kd.R kR 50 w base ok (.slice A n c) (allT ls ls.length)) (hx : 0 < (allT ls ls.length).length) : ∃ g c', Value.slice A n c = .slice (some ⟨g, 0, none⟩) n c' ∧ Kd.R kR 50 w base ok (.slice (some ⟨g, 0, none⟩) n c) (ls.flatten.map RS) := by
  obtain ⟨g, rfl⟩ := RecR_some h hx
  refine ⟨g, c, rfl, ?_⟩
  have e : allT ls ls.length = ls.flatten.map RS := by unfold allT; rw [List.take_length]
  rw [e] at h
  exact h
theorem rec_cells {w : World} {base g n c : Nat} {ok : Nat → Prop} {l : List Rec} (h : Kd.R kR 50 w base ok (.slice (some ⟨g, 0, none⟩) n c) (l.map RS)) (i : Nat) (hi : i < (l.map RS).length) :
    w.cell? ⟨g, i * 4, none⟩ = some (.int .u64 ((l[i]'(by rw [List.length_map] at hi; exact hi)).seq : Int)) ∧ w.cell? ⟨g, i * 4 + 1, none⟩ = some (.string (B (l[i]'(by rw [List.length_map] at hi; exact hi)).key)) ∧ w.cell? ⟨g, i * 4 + 2, none⟩ = some (.string (B (l[i]'(by rw [List.length_map] at hi; exact hi)).val)) ∧ w.cell? ⟨g, i * 4 + 3, none⟩ = some (.bool (l[i]'(by rw [List.length_map] at hi; exact hi)).gone) := by
  obtain ⟨g', c', hv, hk⟩ := rec_at h i (by rw [List.length_map] at hi; exact hi)
  cases hv
  exact hk
abbrev recL : Obj := .cells #[.int .u64 9, .string ⟨#[108, 97, 115, 116]⟩, .string ⟨#[]⟩, .bool false] 50
theorem mAt_len (k : ByteArray) (ls : List (List Rec)) (i : Nat) : (dkR 262144 (mAt k ls i)).m.length ≤ 1000000 := by
  show (mAt k ls i).length ≤ 1000000
  unfold mAt
  split <;> simp
theorem mAt_good {k : ByteArray} {ls : List (List Rec)} {i : Nat} (h : ∀ l ∈ ls, (frameS l).2 = 0) (hn : ls.length ≤ 20) : GoodM (dkR 262144 (mAt k ls i)).m := by
  intro p hp
  have hp' : p ∈ mAt k ls i := hp
  unfold mAt at hp'
  split at hp'
  · cases hp'
  · rw [List.mem_singleton.1 hp']
    have h1 := frames_le (ls.take i) (fun l hl => h l (List.mem_of_mem_take hl))
    have h2 : (ls.take i).length ≤ 20 := by rw [List.length_take]; omega
    exact ⟨Int.le_refl _, by simp, by show (B (framesS (ls.take i))).size ≤ _; rw [B_size]; omega⟩
theorem mAt_names (ls : List (List Rec)) (i : Nat) : ∀ s ∈ names (dkR 262144 (mAt (sgN (1 : Nat)) ls i)).m, s.size ≤ 9223372036854775807 := by
  intro s hs
  have := names_small (m := mAt (sgN (1 : Nat)) ls i) (fun p hp => by
    unfold mAt at hp
    split at hp
    · cases hp
    · rw [List.mem_singleton.1 hp]
      have := nameB_size 115 (1 : Nat) 0
      show (nameB 115 (1 : Nat) 0).size ≤ _
      omega) s hs
  omega
theorem one_int_C {W : World} {s : Nat} {x : Int} {t : TypeId} (h : W.heap[s]? = some (.cells #[.int .i64 x] t)) : kI.C W (some ⟨s, 0, none⟩) [x].length [x] := by
  refine ⟨rfl, by simp, fun _ => ⟨⟨s, 0, none⟩, rfl, fun j p hj => ?_⟩⟩
  match j, hj with
  | 0, hj =>
    have : x = p := by simpa using hj
    subst this
    refine ⟨[.int .i64 x], rfl, rfl, fun i u hu => ?_⟩
    match i, hu with
    | 0, hu =>
      injection hu with hu
      subst hu
      have e : ((⟨s, 0, none⟩ : Addr).add (0 * kI.sz + 0)) = ⟨s, 0, none⟩ := by simp [Addr.add]
      rw [e]
      simp [World.cell?, h]
    | i + 1, hu => simp at hu
  | j + 1, hj => simp at hj
set_option maxHeartbeats 25600000 in
set_option maxRecDepth 100000 in
theorem torn_walk (A0 : Option Addr) (c0 : Nat) (ls : List (List Rec)) (kept : Int) (w : World) (hC : Kd.C kL w A0 (RSS ls).length (RSS ls)) (hc0 : (RSS ls).length ≤ c0) (hnl : ls.length ≤ 1000000000000000) (hL : LaidW w) :
    Calls Tryz.prog 5 #[.slice A0 (RSS ls).length c0, .int .i64 kept] w fun e w' => e = .returned (.bool true) ∧ Below w.heap.size w w' := by
  obtain ⟨t, ht, hl⟩ := ev_light4 (RSS ls) (by rw [RSS_len]; exact hnl) (RSS ls).length 0 0 (by omega)
  have HEV := Aside0.mk (show ∃ k, thwartref04_Light.f k (RSS ls) = some t from Ev.rounds ht)
  have HLI := Aside0.mk hl
  have HC := Aside0.mk hC
  have HC0 := Aside0.mk hc0
  have HL := Aside0.mk hL
  have HN := Aside0.mk hnl
  have HRL := Aside0.mk (RSS_len ls)
  clear hC hc0 hL hnl ht hl
  obtain ⟨n, hn⟩ : ∃ n, (RSS ls).length = n := ⟨_, rfl⟩
  rw [hn]
  rw [hn] at HRL
  have HNN := Aside0.mk hn
  clear hn
  have hnI : (0 : Int) ≤ (n : Int) := by omega
  go_enter Tryz.func5, Tryz.ntmps5
  go_wp2_with fail
  refine (awake08.calls _ HL.out).mono ?_
  rintro e w1 ⟨rfl, b1⟩
  have B1 := Aside0.mk b1
  clear b1
  go_wp2_with fail
  refine (disk_New.calls 262144 _).mono ?_
  rintro e w2 (⟨hh, _⟩ | ⟨_, d, rfl, h2, b2⟩)
  · omega
  have D2 := Aside0.mk (show At8 w w2 (fun k => w1.heap.size ≤ k ∧ k < w2.heap.size) d (dkR 262144 (mAt (sgN (1 : Nat)) ls 0)) from ⟨h2.bound, fun k hk => Nat.le_trans B1.out.size hk.1, fun k hk => hk.2, B1.out.trans (b2.mono B1.out.size)⟩)
  clear h2 b2 B1
  go_wp2_with fail
  obtain ⟨q, hq⟩ := HEV.out
  have HQ := Aside0.mk hq
  have HCw := Aside0.mk (Kd.C_below HC.out D2.out.be)
  rw [HNN.out] at HCw
  have HLC := Aside0.mk (thwartref04_Light.calls q A0 c0 (RSS ls) t w2 (by rw [HNN.out]; exact HCw.out) HC0.out HQ.out)
  rw [HNN.out] at HLC
  clear hq
  refine HLC.out.mono ?_
  rintro e w3 ⟨rfl, b3⟩
  have D3 := Aside0.mk (D2.out.below b3)
  clear b3 HLC HCw HQ HEV D2
  cases t with
  | false =>
    go_wp2_with fail
    go_ret
    exact ⟨rfl, D3.out.be⟩
  | true =>
    have HN20 := Aside0.mk (show ls.length ≤ 20 by have := HLI.out rfl; rw [RSS_len] at this; exact this)
    clear HLI
    have T3 := Aside0.mk (show Tn w (w3.alloc (.cells #[.int .i64 0] 3)) (fun k => w1.heap.size ≤ k ∧ k < w2.heap.size) (fun _ => False) (fun _ => False) (fun k => k = w3.heap.size) d (dkR 262144 (mAt (sgN (1 : Nat)) ls 0)) (.slice none 0 0) (.slice none 0 0) (.slice (some ⟨w3.heap.size, 0, none⟩) 1 1) (endsT ls 0) (allT ls 0) (manyT ls 0) from
      ⟨D3.out.below (below_alloc (Below.refl _ _) _), Kd.R_nil _ _ _ _ _, Kd.R_nil _ _ _ _ _, Kd.R_of_own (own_lit_of (enc := Value.int .i64) w3 w.heap.size 3 [0] D3.out.be.size (by decide)) (fun k hk => by cases hk; rfl), fun k hk => hk.elim, fun k hk => hk.elim, fun k hk => by
        refine ⟨by rw [hk]; simp, fun h2 => ?_⟩
        have := D3.out.hi k h2
        omega⟩)
    clear D3
    go_wp2_with fail
    go_loopw [9, 10, 11, 12] (fun v9 v10 v11 v12 wr => ∃ (i : Nat) (T TE TA TM : Nat → Prop), i ≤ n ∧ v12 = .int .i64 i ∧ Aside0 (Tn w wr T TE TA TM d (dkR 262144 (mAt (sgN (1 : Nat)) ls i)) v9 v10 v11 (endsT ls i) (allT ls i) (manyT ls i)) ∧ Aside0 (∀ l ∈ ls.take i, (frameS l).2 = 0)) (fun _ _ _ v12 _ => n - (intOf v12).toNat)
    case atStart => exact ⟨0, _, _, _, _, Nat.zero_le _, rfl, T3, ⟨fun l hl => by simp at hl⟩⟩
    case round =>
      obtain ⟨i, T, TE, TA, TM, hi, rfl, HT, HOK⟩ := hrel
      have hn20 : n ≤ 20 := by have := HN20.out; have := HRL.out; omega
      obtain ⟨A9, c9, rfl⟩ := Kd.R_slice HT.out.e
      obtain ⟨Aa, ca, rfl⟩ := Kd.R_slice HT.out.a
      obtain ⟨Am, cm, rfl⟩ := Kd.R_slice HT.out.m
      obtain ⟨en, hen⟩ : ∃ en, (endsT ls i).length = en := ⟨_, rfl⟩
      obtain ⟨an, han⟩ : ∃ an, (allT ls i).length = an := ⟨_, rfl⟩
      obtain ⟨mn_, hmn⟩ : ∃ mn_, (manyT ls i).length = mn_ := ⟨_, rfl⟩
      have HEN := Aside0.mk hen
      have HAN := Aside0.mk han
      have HMN := Aside0.mk hmn
      rw [hen, han, hmn] at HT
      rw [hen, han, hmn]
      clear hen han hmn
      by_cases hlt : i < n
      · have d1 : decide ((i : Int) < (n : Int)) = true := decide_eq_true (by omega)
        have i0 : 0 ≤ (i : Int) := by omega
        have i1 : (i : Int) < (n : Int) := by omega
        have hil : i < ls.length := by have := HRL.out; omega
        obtain ⟨ad, A5, c5, rfl, hcell0, h5, hC50⟩ := rows_at HC.out i (by rw [RSS_len]; exact hil)
        have hrow : (RSS ls)[i]'(by rw [RSS_len]; exact hil) = (ls[i]).map RS := by unfold RSS; rw [List.getElem_map]
        have hcell := pw_cell_below HT.out.at_.be hcell0
        have HW := Aside0.mk (seg_Write.calls wr T d (dkR 262144 (mAt (sgN (1 : Nat)) ls i)) HT.out.at_.at_ HT.out.at_.hi (mAt_sm (by decide) HOK.out HN20.out) 1 (by decide) (HL.out.below HT.out.at_.be) A5 c5 ls[i] _ hrow (Kd.C_below hC50 HT.out.at_.be) h5 (HT.out.at_.laid HL.out))
        have HWA := Aside0.mk (write_at (n := 1) (by decide) hil HN20.out HOK.out)
        have HOS := Aside0.mk (ok_snoc hil HOK.out)
        have HAS := Aside0.mk (allT_succ hil)
        have HCW := Aside0.mk hcell0
        have H5 := Aside0.mk hC50
        rw [hrow] at H5 HCW HW hcell
        have HFL := Aside0.mk (show (allT ls i).length ≤ 320 ∧ ((frameS ls[i]).2 = 0 → ((ls[i]).map RS).length ≤ 16) from ⟨by rw [allT_len]; have := flat_le (ls.take i) HOK.out; rw [List.length_take] at this; have := HN20.out; omega, fun hf => by rw [List.length_map]; exact (fits_facts (frameS_ok hf).1).2⟩)
        obtain ⟨ln, hln⟩ : ∃ ln, ((ls[i]).map RS).length = ln := ⟨_, rfl⟩
        rw [hln] at H5 HCW HW hcell HFL
        have HLN := Aside0.mk hln
        clear hrow hC50 h5 hln hcell0
        go_wp2_with fail
        refine HW.out.mono ?_
        rintro e wx ⟨v, T', rfl, h', hT', _, f'⟩
        rcases HWA.out with ⟨hf0, hw⟩ | hw
        · have hw' : segWrite (dkR 262144 (mAt (sgN (1 : Nat)) ls i)) 1 ls[i] = _ := hw
          rw [hw'] at h' ⊢
          have TX := Aside0.mk (HT.out.disk h' hT' f')
          have OX := Aside0.mk (HOS.out hf0)
          have HLE := Aside0.mk (HFL.out.2 hf0)
          have HLE2 := Aside0.mk HFL.out.1
          clear h' hT' f' hw hw' hf0 HW HWA HOS HFL hcell
          go_wp2_with fail
          refine (disk_Size.calls wx T' d _ TX.out.at_.at_ ⟨#[115, 48, 48, 48, 48, 48, 49]⟩ (by decide)).mono ?_
          rintro e wy ⟨rfl, by_⟩
          have hz : ((dkR 262144 (mAt (sgN (1 : Nat)) ls (i + 1))).size ⟨#[115, 48, 48, 48, 48, 48, 49]⟩).1 = ((framesS (ls.take (i + 1))).length : Int) := by
            have := (mAt_one (sgN (1 : Nat)) ls (i + 1)).size (R := 262144)
            rw [B_size] at this
            exact this
          rw [hz]
          have TY := Aside0.mk (TX.out.below by_)
          have HES := Aside0.mk (endsT_succ ls i)
          have HMS := Aside0.mk (manyT_succ ls i)
          have hcw := pw_cell_below TY.out.at_.be HCW.out
          clear by_ hz TX
          generalize ((framesS (ls.take (i + 1))).length : Int) = fz at HES ⊢
          go_wp2_with (first
            | ((with_reducible refine gate_builtin (b := .append) (xs := #[.tmp 82, .tmp 84]) rfl ?_); at_builtin; refine Kd.R_append kI (w0 := w) w.heap.size rfl (.tmp 82) (.tmp 84) 44 3 (.int .i64 0) 8 rfl Tryz.underlying44 intinfo rfl (by decide) (by omega) (.slice A9 en c9) (endsT ls i) fz [.int .i64 fz] (fun k => TE k ∨ wy.heap.size ≤ k) (fun _ => False) rfl rfl rfl (fun _ hk => hk.elim) (fun k hk => Or.inr hk) (Kd.R_mono TY.out.e (fun k hk => Or.inl hk)) TY.out.at_.be TY.out.at_.be.size (by rw [endsT_len]; omega) ?_; intro v1 w5 hR hB hg hat; rw [← HES.out] at hR; have TZ := Aside0.mk (TY.out.app_e hB hR hg); have hcw2 := pw_cell_below TZ.out.at_.be HCW.out; obtain ⟨A1, c1, rfl⟩ := Kd.R_slice hR; obtain ⟨en2, hen2⟩ : ∃ m, (endsT ls (i + 1)).length = m := ⟨_, rfl⟩; rw [hen2] at TZ; rw [hen2]; clear hR hB hg hat hen2 hcw)
            | ((with_reducible refine gate_builtin (b := .append) (xs := #[.tmp 86, .tmp 90]) rfl ?_); at_builtin; refine Kd.R_append_rows kR (w0 := w) w.heap.size rfl (.tmp 86) (.tmp 90) 36 50 (.agg #[.int .u64 0, .string ⟨#[]⟩, .string ⟨#[]⟩, .bool false]) 48 rfl Tryz.underlying36 recinfo rfl (by decide) (by decide) (.slice Aa an ca) (allT ls i) ((ls[i]).map RS) A5 ln c5 (fun k => TA k ∨ w5.heap.size ≤ k) (fun _ => False) rfl rfl (Kd.R_mono TZ.out.a (fun k hk => Or.inl hk)) (Kd.C_below H5.out TZ.out.at_.be) (fun x cs h => kR_KM h) (fun _ hk => hk.elim) (fun k hk => Or.inr hk) TZ.out.at_.be TZ.out.at_.be.size (by have := HLE.out; have := HLE2.out; omega) ?_; intro v2 w6 hR hB hg hat; rw [← HAS.out] at hR; have TU := Aside0.mk (TZ.out.app_a hB hR hg); obtain ⟨A2, c2, rfl⟩ := Kd.R_slice hR; obtain ⟨an2, han2⟩ : ∃ m, (allT ls (i + 1)).length = m := ⟨_, rfl⟩; have HAN2 := Aside0.mk han2; rw [han2] at TU; rw [han2]; clear hR hB hg hat han2 hcw2)
            | ((with_reducible refine gate_builtin (b := .append) (xs := #[.tmp 92, .tmp 95]) rfl ?_); at_builtin; refine Kd.R_append kI (w0 := w) w.heap.size rfl (.tmp 92) (.tmp 95) 44 3 (.int .i64 0) 8 rfl Tryz.underlying44 intinfo rfl (by decide) (by omega) (.slice Am mn_ cm) (manyT ls i) (an2 : Int) [.int .i64 (an2 : Int)] (fun k => TM k ∨ w6.heap.size ≤ k) (fun _ => False) rfl rfl rfl (fun _ hk => hk.elim) (fun k hk => Or.inr hk) (Kd.R_mono TU.out.m (fun k hk => Or.inl hk)) TU.out.at_.be TU.out.at_.be.size (by rw [manyT_len]; omega) ?_; intro v3 w7 hR hB hg hat; rw [show manyT ls i ++ [(an2 : Int)] = manyT ls (i + 1) by rw [HMS.out, ← HAN2.out, allT_len]] at hR; have TV := Aside0.mk (TU.out.app_m hB hR hg); obtain ⟨A3, c3, rfl⟩ := Kd.R_slice hR; obtain ⟨mn2, hmn2⟩ : ∃ m, (manyT ls (i + 1)).length = m := ⟨_, rfl⟩; rw [hmn2] at TV; rw [hmn2]; clear hR hB hg hat hmn2))
          go_roundw
          case rel => exact ⟨i + 1, _, _, _, _, by omega, by go_num, TV, OX⟩
          case measure => simp [intOf]; omega
        · have hw' : segWrite (dkR 262144 (mAt (sgN (1 : Nat)) ls i)) 1 ls[i] = _ := hw
          rw [hw'] at h' ⊢
          have DX := Aside0.mk (HT.out.at_.next h' hT' f')
          clear h' hT' f' hw hw' HW HWA HOS hcell
          go_wp2_with fail
          go_ret
          exact ⟨rfl, DX.out.be⟩
      · have d1 : decide ((i : Int) < (n : Int)) = false := decide_eq_false (by omega)
        have hiN : i = ls.length := by have := HRL.out; omega
        have HOA := Aside0.mk (show ∀ l ∈ ls, (frameS l).2 = 0 by have := HOK.out; rwa [List.take_of_length_le (by omega)] at this)
        by_cases h0 : n = 0
        · have e0 : ((n : Int) == 0) = true := by rw [h0]; rfl
          go_wp2_with fail
          go_ret
          exact ⟨rfl, HT.out.at_.be⟩
        have hnb : ((n : Int) == 0) = false := beq_eq_false_iff_ne.2 (by omega)
        subst hiN
        obtain ⟨c, st2, st3, st4, E, x, L2, e1, e2, e3, e4, hs2, hs3, e5, hs4, e6, e7, e8, e9⟩ := torn_facts HN20.out (by have := HRL.out; omega) HOA.out kept
        have E1 := Aside0.mk e1
        have E2 := Aside0.mk e2
        have E3 := Aside0.mk e3
        have E4 := Aside0.mk e4
        have E5 := Aside0.mk e5
        have E6 := Aside0.mk e6
        have E7 := Aside0.mk e7
        have E8 := Aside0.mk e8
        have E9 := Aside0.mk e9
        have S2 := Aside0.mk hs2
        have S3 := Aside0.mk hs3
        have S4 := Aside0.mk hs4
        clear e1 e2 e3 e4 e5 e6 e7 e8 e9 hs2 hs3 hs4 HOK
        go_wp2_with fail
        have TC := Aside0.mk (HT.out.below (below_alloc (Below.refl _ _) (.cells #[.int .i64 kept] 3)))
        have hnT : ¬ T wr.heap.size := fun h => by have := HT.out.at_.hi _ h; omega
        refine (disk_Crash.calls _ T d _ TC.out.at_.at_ TC.out.at_.hi (mAt_len _ _ _) (mAt_good HOA.out HN20.out) (mAt_names _ _) (some ⟨wr.heap.size, 0, none⟩) 1 [kept] (fun W hW => one_int_C (hW.keeps (blk_new _ _) hnT)) (by simp)).mono ?_
        rintro e w6 ⟨rfl, h6, f6⟩
        rw [E1.out] at h6
        have T6 := Aside0.mk (TC.out.disk h6 (fun k hk => ⟨Or.inl hk, Nat.lt_of_lt_of_le (TC.out.at_.hi k hk) f6.size⟩) f6)
        clear h6 f6 TC hnT HT
        go_wp2_with fail
        refine (disk_Size.calls w6 T d st2 T6.out.at_.at_ ⟨#[115, 48, 48, 48, 48, 48, 49]⟩ (by decide)).mono ?_
        rintro e w7 ⟨rfl, b7⟩
        have e2' : (st2.size ⟨#[115, 48, 48, 48, 48, 48, 49]⟩).1 = (c : Int) := E2.out
        rw [e2']
        have T7 := Aside0.mk (T6.out.below b7)
        clear b7 T6 e2'
        have hen9 : en = n := by have := HEN.out; rw [endsT_len] at this; have := HRL.out; omega
        go_wp2_with fail
        go_loopw [19] (fun v19 wr => ∃ j : Nat, j ≤ wholeS ls c ∧ v19 = .int .i64 j ∧ Aside0 (Tn w wr T TE TA TM d st2 (.slice A9 en c9) (.slice Aa an ca) (.slice Am mn_ cm) (endsT ls ls.length) (allT ls ls.length) (manyT ls ls.length))) (fun v19 _ => 25 - (intOf v19).toNat)
        case atStart => exact ⟨0, Nat.zero_le _, rfl, T7⟩
        case round =>
          obtain ⟨j, hj, rfl, HT2⟩ := hrel
          have hWn := wholeS_le ls c
          have hn20' := HN20.out
          by_cases hjn : j < en
          · have dj : decide ((j : Int) < (en : Int)) = true := decide_eq_true (by omega)
            have j0 : 0 ≤ (j : Int) := by omega
            have j1 : (j : Int) < (en : Int) := by omega
            have hjl : j < ls.length := by have := HRL.out; omega
            have hnx := wholeS_next ls c j hjl
            obtain ⟨ade, ce, hve, hce⟩ := int_at HT2.out.e j (by rw [endsT_len]; exact hjl)
            injection hve with hve hx_ hy_
            subst hve
            clear hx_ hy_
            have hce2 : wr.cell? (ade.add j) = some (.int .i64 ((framesS (ls.take (j + 1))).length : Int)) := by
              rw [hce]
              congr 2
              unfold endsT
              rw [List.getElem_map, List.getElem_range]
            generalize (framesS (ls.take (j + 1))).length = fz at hce2 hnx
            clear hce
            by_cases hle : fz ≤ c
            · have dle : decide ((fz : Int) ≤ (c : Int)) = true := decide_eq_true (by omega)
              have hjw := hnx.2 hle
              clear hnx
              go_wp2_with fail
              go_roundw
              case rel => exact ⟨j + 1, by omega, by go_num, HT2⟩
              case measure => simp [intOf]; omega
            · have dle : decide ((fz : Int) ≤ (c : Int)) = false := decide_eq_false (by omega)
              have hjW : j = wholeS ls c := by have := mt hnx.1 hle; omega
              subst hjW
              clear hnx hj
              go_wp2_with fail
              refine (seg_Load.calls wr T d st2 HT2.out.at_.at_ HT2.out.at_.hi S2.out 1 (by decide) (HL.out.below HT2.out.at_.be)).mono ?_
              rintro e wa ⟨v, Ta, he, h', hT', hR, f'⟩
              rw [E3.out] at he h' hR
              obtain ⟨Av, cv, rfl⟩ := Kd.R_slice hR
              rw [List.length_map] at he hR
              obtain ⟨L1, hL1⟩ : ∃ L1, E.length = L1 := ⟨_, rfl⟩
              rw [hL1] at he hR
              have he' : e = .returned (.tuple #[.slice (Av) L1 cv, .int .i64 0]) := he
              subst he'
              have HL1 := Aside0.mk hL1
              have TA1 := Aside0.mk (HT2.out.disk h' hT' f')
              have HTa := Aside0.mk (show ∀ k, Ta k → k < wa.heap.size from fun k hk => (hT' k hk).2)
              clear he h' hT' hR f' HT2 hL1
              have hW1 : wholeS ls c < mn_ := by have := wholeS_le ls c; have := HMN.out; rw [manyT_len] at this; have := HRL.out; omega
              obtain ⟨adm, cm', hvm, hcm⟩ := int_at TA1.out.m (wholeS ls c) (by rw [manyT_len]; have := HMN.out; rw [manyT_len] at this; omega)
              injection hvm with hvm hx_ hy_
              subst hvm
              clear hx_ hy_
              have hcm2 : wa.cell? (adm.add (wholeS ls c)) = some (.int .i64 (L1 : Int)) := by
                rw [hcm]
                congr 2
                unfold manyT
                rw [List.getElem_map, List.getElem_range, ← E4.out, HL1.out]
              clear hcm
              obtain ⟨W, hWe⟩ : ∃ W, wholeS ls c = W := ⟨_, rfl⟩
              rw [hWe] at hcm2 hW1 ⊢
              have w0' : (0 : Int) ≤ (W : Int) := by omega
              have w1' : (W : Int) < (mn_ : Int) := by omega
              have hll : (((L1 : Int)) != (L1 : Int)) = false := by simp
              clear hWe
              go_wp2_with fail
              obtain ⟨wb, hwb⟩ : ∃ wb, (wa.alloc recL).alloc recL = wb := ⟨_, rfl⟩
              have XL := Aside0.mk (show wb.heap[wa.heap.size]? = some recL by rw [← hwb]; exact blk_alloc (blk_new _ _) _)
              have X2 := Aside0.mk (show wb.heap[wa.heap.size + 1]? = some recL by
                rw [← hwb]
                have := blk_new (wa.alloc recL) recL
                simpa using this)
              have TB := Aside0.mk (show Tn w wb Ta TE TA TM d st3 _ _ _ _ _ _ by rw [← hwb]; exact TA1.out.below ((below_alloc (Below.refl _ _) recL).trans ((below_alloc (Below.refl _ _) recL).mono (by simp))))
              have ZB := Aside0.mk (show wa.heap.size + 2 = wb.heap.size by rw [← hwb]; simp)
              rw [hwb]
              obtain ⟨bL, hbL⟩ : ∃ b, wa.heap.size = b := ⟨_, rfl⟩
              rw [hbL] at XL X2 ZB HTa ⊢
              clear hwb hbL TA1 hcm2 hll w0' w1' hW1
              refine (seg_Write.calls wb Ta d st3 TB.out.at_.at_ TB.out.at_.hi S3.out 1 (by decide) (HL.out.below TB.out.at_.be) (some ⟨bL + 1, 0, none⟩) 1 [rLast] [RS rLast] rfl (rec_C (x := RS rLast) X2.out) (by decide) (TB.out.at_.laid HL.out)).mono ?_
              rintro e wc ⟨v2, Tc, he, h', hT', hR, f'⟩
              rw [E5.out] at he h' hR
              obtain ⟨g, cx, rfl, g1, g2, g3, hE⟩ := one_ent hR
              have he' : e = .returned (.tuple #[.slice (some ⟨g, 0, none⟩) 1 cx, .int .i64 0]) := he
              subst he'
              have TCc := Aside0.mk (TB.out.disk h' hT' f')
              have XLc := Aside0.mk (f'.keeps XL.out (fun hk => by have := HTa.out _ hk; omega))
              have HTc := Aside0.mk (show ¬ Tc bL from fun hk => (hT' _ hk).1.elim (fun h => by have := HTa.out _ h; omega) (fun h => by have := ZB.out; omega))
              have HXc := Aside0.mk hE
              have HGc := Aside0.mk (And.intro g2 g3)
              clear he h' hT' hR f' g1 g2 g3 hE XL X2 TB
              go_wp2_with fail
              refine (seg_Load.calls wc Tc d st4 TCc.out.at_.at_ TCc.out.at_.hi S4.out 1 (by decide) (HL.out.below TCc.out.at_.be)).mono ?_
              rintro e we ⟨v3, Te, he, h', hT', hR, f'⟩
              rw [E6.out] at he h' hR
              obtain ⟨A3, c3, rfl⟩ := Kd.R_slice hR
              have hlen3 : ((E ++ [x]).map ES).length = L1 + 1 := by rw [List.length_map, List.length_append, HL1.out]; rfl
              rw [hlen3] at he hR
              have he' : e = .returned (.tuple #[.slice A3 (L1 + 1) c3, .int .i64 0]) := he
              subst he'
              have TEe := Aside0.mk (TCc.out.disk h' hT' f')
              have XLe := Aside0.mk (f'.keeps XLc.out HTc.out)
              have HXe := Aside0.mk (HXc.out.keep (f'.block g HGc.out.2 HGc.out.1))
              have HRe := Aside0.mk hR
              have HGe := Aside0.mk (Nat.lt_of_lt_of_le HGc.out.2 f'.size)
              clear he h' hT' hR f' TCc XLc HXc HGc hlen3 HTc HTa ZB
              obtain ⟨g3, c3', hv3, k0, k1, k2, k3, k4⟩ := ent_at HRe.out L1 (by rw [List.length_append, HL1.out]; simp)
              injection hv3 with hv3 hx_ hy_
              subst hv3
              clear hx_ hy_
              have hx1 : (E ++ [x])[L1]'(by rw [List.length_append, HL1.out]; simp) = x := by simp [← HL1.out]
              rw [hx1] at k0 k1 k2 k3 k4
              obtain ⟨x0, x1, x2, x3, x4⟩ := HXe.out
              have hq := hne_ent (B x.key) x.off x.len (x.seq : Int) x.gone
              have l0' : (0 : Int) ≤ (L1 : Int) := by omega
              have l1' : (L1 : Int) < (L1 : Int) + 1 := by omega
              have HLB := Aside0.mk (show L1 ≤ 1000 by
                have h1 := E9.out
                have h2 := flat_le ls HOA.out
                have := HN20.out
                have := HL1.out
                omega)
              have hlb := HLB.out
              clear hx1
              go_wp2
              go_quiet (fail)
              go_wp2_with fail
              obtain ⟨wL, hwL⟩ : ∃ wL, we.drewN nq = wL := ⟨_, rfl⟩
              have BL := Aside0.mk (show Below we.heap.size we wL by rw [← hwL]; exact pw_below_drewN (Below.refl _ _) nq)
              rw [hwL]
              clear hwL k0 k1 k2 k3 k4 x0 x1 x2 x3 x4 hq l1'
              go_loopw [27] (fun v27 wr => ∃ i3 : Nat, i3 ≤ L1 ∧ v27 = .int .i64 i3 ∧ Aside0 (Below we.heap.size we wr)) (fun v27 _ => L1 - (intOf v27).toNat)
              case atStart => exact ⟨0, Nat.zero_le _, rfl, BL⟩
              case round =>
                obtain ⟨i3, hi3, rfl, HB3⟩ := hrel
                have T3e := Aside0.mk (TEe.out.below HB3.out)
                by_cases h3 : i3 < L1
                · have d3 : decide ((i3 : Int) < (L1 : Int)) = true := decide_eq_true (by omega)
                  have a0 : (0 : Int) ≤ (i3 : Int) := by omega
                  have a1 : (i3 : Int) < (L1 : Int) + 1 := by omega
                  have hiE : i3 < E.length := by have := HL1.out; omega
                  have hiF : i3 < ls.flatten.length := by have := E9.out; omega
                  obtain ⟨k0, k1, k2, k3, k4⟩ := ent_cells (Kd.R_below HRe.out HB3.out) i3 (by rw [List.length_append]; omega)
                  have hge : (E ++ [x])[i3]'(by rw [List.length_append]; omega) = E[i3] := List.getElem_append_left hiE
                  rw [hge] at k0 k1 k2 k3 k4
                  have HG7 := Aside0.mk (E7.out i3 hiE hiF)
                  obtain ⟨ga, ca', hva, hcs⟩ := rec_row T3e.out.a (by rw [allT_len, List.take_length]; omega)
                  injection hva with hva hx_ hy_
                  subst hva
                  clear hx_ hy_
                  have HCS := Aside0.mk hcs
                  generalize E[i3] = ee at k0 k1 k2 k3 k4 HG7
                  have hrr : ∃ rr, ls.flatten[i3] = rr := ⟨_, rfl⟩
                  obtain ⟨rr, hrr⟩ := hrr
                  rw [hrr] at HG7
                  have HRR := Aside0.mk hrr
                  have hanI : (i3 : Int) < (an : Int) := by have := HAN.out; rw [allT_len, List.take_length] at this; omega
                  clear hrr hge hcs
                  go_wp2_with fail
                  refine (seg_Get.calls wr Te d st4 T3e.out.at_.at_ S4.out 1 (by decide) (HL.out.below T3e.out.at_.be) ee).mono ?_
                  rintro e wx ⟨he, bx⟩
                  rw [HG7.out] at he
                  have he' : e = .returned (.tuple #[.agg #[.int .u64 (rr.seq : Int), .string (B rr.key), .string (B rr.val), .bool rr.gone], .int .i64 0]) := he
                  subst he'
                  have BX := Aside0.mk (HB3.out.trans (bx.mono HB3.out.size))
                  have RX := Aside0.mk (Kd.R_below HCS.out bx)
                  clear he bx k0 k1 k2 k3 k4
                  have hq := hne_rec (rr.seq : Int) (B rr.key) (B rr.val) rr.gone
                  go_wp2
                  obtain ⟨wz, hwz⟩ : ∃ wz, wx.alloc (.cells #[.int .u64 (rr.seq : Int), .string (B rr.key), .string (B rr.val), .bool rr.gone] 50) = wz := ⟨_, rfl⟩
                  have XZ := Aside0.mk (show wz.heap[wx.heap.size]? = some (.cells #[.int .u64 (rr.seq : Int), .string (B rr.key), .string (B rr.val), .bool rr.gone] 50) by rw [← hwz]; exact blk_new _ _)
                  have RZ := Aside0.mk (show Kd.R kR 50 wz w.heap.size TA (.slice (some ⟨ga, 0, none⟩) an ca) (ls.flatten.map RS) by rw [← hwz]; exact Kd.R_alloc RX.out _)
                  have BZ := Aside0.mk (show Below we.heap.size we wz by rw [← hwz]; exact BX.out.alloc BX.out.size _)
                  rw [hwz]
                  clear hwz
                  obtain ⟨y0, y1, y2, y3, fy⟩ := cells4f XZ.out
                  obtain ⟨r0', r1', r2', r3'⟩ := rec_cells RZ.out i3 (by rw [List.length_map]; exact hiF)
                  rw [HRR.out] at r0' r1' r2' r3'
                  go_quiet (fail)
                  obtain ⟨wq, hwq⟩ : ∃ wq, wz.drewN nq = wq := ⟨_, rfl⟩
                  have BQ := Aside0.mk (show Below we.heap.size we wq by rw [← hwq]; exact pw_below_drewN BZ.out nq)
                  try rw [hwq]
                  clear hwq
                  go_wp2_with fail
                  go_roundw
                  case rel => exact ⟨i3 + 1, by omega, by go_num, BQ⟩
                  case measure => simp [intOf]; omega
                · have d3 : decide ((i3 : Int) < (L1 : Int)) = false := decide_eq_false (by omega)
                  obtain ⟨x0, x1, x2, x3, x4⟩ := HXe.out.keep (HB3.out.block g HGe.out)
                  go_wp2_with fail
                  refine (seg_Get.calls wr Te d st4 T3e.out.at_.at_ S4.out 1 (by decide) (HL.out.below T3e.out.at_.be) x).mono ?_
                  rintro e wx ⟨he, bx⟩
                  rw [E8.out] at he
                  have he' : e = .returned (.tuple #[.agg #[.int .u64 9, .string ⟨#[108, 97, 115, 116]⟩, .string ⟨#[]⟩, .bool false], .int .i64 0]) := he
                  subst he'
                  have BX := Aside0.mk (HB3.out.trans (bx.mono HB3.out.size))
                  have XLx := Aside0.mk (blk_below (blk_below XLe.out HB3.out) bx)
                  have BXX := Aside0.mk (T3e.out.at_.be.trans (bx.mono T3e.out.at_.be.size))
                  clear he bx x0 x1 x2 x3 x4
                  go_upto_region 41 with (fail)
                  obtain ⟨wz, hwz⟩ : ∃ wz, wx.alloc recL = wz := ⟨_, rfl⟩
                  have XZ := Aside0.mk (show wz.heap[wx.heap.size]? = some recL by rw [← hwz]; exact blk_new _ _)
                  have XLz := Aside0.mk (show wz.heap[bL]? = some recL by rw [← hwz]; exact blk_alloc XLx.out _)
                  have BZ := Aside0.mk (show Below w.heap.size w wz by rw [← hwz]; exact BXX.out.alloc BXX.out.size _)
                  rw [hwz]
                  clear hwz
                  obtain ⟨y0, y1, y2, y3, fy⟩ := cells4f XZ.out
                  obtain ⟨z0, z1, z2, z3, fz'⟩ := cells4f XLz.out
                  have hq := heq_rec 9 ⟨#[108, 97, 115, 116]⟩ ⟨#[]⟩ false
                  go_wp2_with fail
                  go_ret
                  exact ⟨rfl, BZ.out⟩
          · have dj : decide ((j : Int) < (en : Int)) = false := decide_eq_false (by omega)
            have hjW : j = wholeS ls c := by have := HRL.out; omega
            subst hjW
            clear hj
            go_wp2_with fail
            refine (seg_Load.calls wr T d st2 HT2.out.at_.at_ HT2.out.at_.hi S2.out 1 (by decide) (HL.out.below HT2.out.at_.be)).mono ?_
            rintro e wa ⟨v, Ta, he, h', hT', hR, f'⟩
            rw [E3.out] at he h' hR
            obtain ⟨Av, cv, rfl⟩ := Kd.R_slice hR
            rw [List.length_map] at he hR
            obtain ⟨L1, hL1⟩ : ∃ L1, E.length = L1 := ⟨_, rfl⟩
            rw [hL1] at he hR
            have he' : e = .returned (.tuple #[.slice (Av) L1 cv, .int .i64 0]) := he
            subst he'
            have HL1 := Aside0.mk hL1
            have TA1 := Aside0.mk (HT2.out.disk h' hT' f')
            have HTa := Aside0.mk (show ∀ k, Ta k → k < wa.heap.size from fun k hk => (hT' k hk).2)
            clear he h' hT' hR f' HT2 hL1
            have hW1 : wholeS ls c < mn_ := by have := wholeS_le ls c; have := HMN.out; rw [manyT_len] at this; have := HRL.out; omega
            obtain ⟨adm, cm', hvm, hcm⟩ := int_at TA1.out.m (wholeS ls c) (by rw [manyT_len]; have := HMN.out; rw [manyT_len] at this; omega)
            injection hvm with hvm hx_ hy_
            subst hvm
            clear hx_ hy_
            have hcm2 : wa.cell? (adm.add (wholeS ls c)) = some (.int .i64 (L1 : Int)) := by
              rw [hcm]
              congr 2
              unfold manyT
              rw [List.getElem_map, List.getElem_range, ← E4.out, HL1.out]
            clear hcm
            obtain ⟨W, hWe⟩ : ∃ W, wholeS ls c = W := ⟨_, rfl⟩
            rw [hWe] at hcm2 hW1 ⊢
            have w0' : (0 : Int) ≤ (W : Int) := by omega
            have w1' : (W : Int) < (mn_ : Int) := by omega
            have hll : (((L1 : Int)) != (L1 : Int)) = false := by simp
            clear hWe
            go_wp2_with fail
            obtain ⟨wb, hwb⟩ : ∃ wb, (wa.alloc recL).alloc recL = wb := ⟨_, rfl⟩
            have XL := Aside0.mk (show wb.heap[wa.heap.size]? = some recL by rw [← hwb]; exact blk_alloc (blk_new _ _) _)
            have X2 := Aside0.mk (show wb.heap[wa.heap.size + 1]? = some recL by
              rw [← hwb]
              have := blk_new (wa.alloc recL) recL
              simpa using this)
            have TB := Aside0.mk (show Tn w wb Ta TE TA TM d st3 _ _ _ _ _ _ by rw [← hwb]; exact TA1.out.below ((below_alloc (Below.refl _ _) recL).trans ((below_alloc (Below.refl _ _) recL).mono (by simp))))
            have ZB := Aside0.mk (show wa.heap.size + 2 = wb.heap.size by rw [← hwb]; simp)
            rw [hwb]
            obtain ⟨bL, hbL⟩ : ∃ b, wa.heap.size = b := ⟨_, rfl⟩
            rw [hbL] at XL X2 ZB HTa ⊢
            clear hwb hbL TA1 hcm2 hll w0' w1' hW1
            refine (seg_Write.calls wb Ta d st3 TB.out.at_.at_ TB.out.at_.hi S3.out 1 (by decide) (HL.out.below TB.out.at_.be) (some ⟨bL + 1, 0, none⟩) 1 [rLast] [RS rLast] rfl (rec_C (x := RS rLast) X2.out) (by decide) (TB.out.at_.laid HL.out)).mono ?_
            rintro e wc ⟨v2, Tc, he, h', hT', hR, f'⟩
            rw [E5.out] at he h' hR
            obtain ⟨g, cx, rfl, g1, g2, g3, hE⟩ := one_ent hR
            have he' : e = .returned (.tuple #[.slice (some ⟨g, 0, none⟩) 1 cx, .int .i64 0]) := he
            subst he'
            have TCc := Aside0.mk (TB.out.disk h' hT' f')
            have XLc := Aside0.mk (f'.keeps XL.out (fun hk => by have := HTa.out _ hk; omega))
            have HTc := Aside0.mk (show ¬ Tc bL from fun hk => (hT' _ hk).1.elim (fun h => by have := HTa.out _ h; omega) (fun h => by have := ZB.out; omega))
            have HXc := Aside0.mk hE
            have HGc := Aside0.mk (And.intro g2 g3)
            clear he h' hT' hR f' g1 g2 g3 hE XL X2 TB
            go_wp2_with fail
            refine (seg_Load.calls wc Tc d st4 TCc.out.at_.at_ TCc.out.at_.hi S4.out 1 (by decide) (HL.out.below TCc.out.at_.be)).mono ?_
            rintro e we ⟨v3, Te, he, h', hT', hR, f'⟩
            rw [E6.out] at he h' hR
            obtain ⟨A3, c3, rfl⟩ := Kd.R_slice hR
            have hlen3 : ((E ++ [x]).map ES).length = L1 + 1 := by rw [List.length_map, List.length_append, HL1.out]; rfl
            rw [hlen3] at he hR
            have he' : e = .returned (.tuple #[.slice A3 (L1 + 1) c3, .int .i64 0]) := he
            subst he'
            have TEe := Aside0.mk (TCc.out.disk h' hT' f')
            have XLe := Aside0.mk (f'.keeps XLc.out HTc.out)
            have HXe := Aside0.mk (HXc.out.keep (f'.block g HGc.out.2 HGc.out.1))
            have HRe := Aside0.mk hR
            have HGe := Aside0.mk (Nat.lt_of_lt_of_le HGc.out.2 f'.size)
            clear he h' hT' hR f' TCc XLc HXc HGc hlen3 HTc HTa ZB
            obtain ⟨g3, c3', hv3, k0, k1, k2, k3, k4⟩ := ent_at HRe.out L1 (by rw [List.length_append, HL1.out]; simp)
            injection hv3 with hv3 hx_ hy_
            subst hv3
            clear hx_ hy_
            have hx1 : (E ++ [x])[L1]'(by rw [List.length_append, HL1.out]; simp) = x := by simp [← HL1.out]
            rw [hx1] at k0 k1 k2 k3 k4
            obtain ⟨x0, x1, x2, x3, x4⟩ := HXe.out
            have hq := hne_ent (B x.key) x.off x.len (x.seq : Int) x.gone
            have l0' : (0 : Int) ≤ (L1 : Int) := by omega
            have l1' : (L1 : Int) < (L1 : Int) + 1 := by omega
            have HLB := Aside0.mk (show L1 ≤ 1000 by
              have h1 := E9.out
              have h2 := flat_le ls HOA.out
              have := HN20.out
              have := HL1.out
              omega)
            have hlb := HLB.out
            clear hx1
            go_wp2
            go_quiet (fail)
            go_wp2_with fail
            obtain ⟨wL, hwL⟩ : ∃ wL, we.drewN nq = wL := ⟨_, rfl⟩
            have BL := Aside0.mk (show Below we.heap.size we wL by rw [← hwL]; exact pw_below_drewN (Below.refl _ _) nq)
            rw [hwL]
            clear hwL k0 k1 k2 k3 k4 x0 x1 x2 x3 x4 hq l1'
            go_loopw [27] (fun v27 wr => ∃ i3 : Nat, i3 ≤ L1 ∧ v27 = .int .i64 i3 ∧ Aside0 (Below we.heap.size we wr)) (fun v27 _ => L1 - (intOf v27).toNat)
            case atStart => exact ⟨0, Nat.zero_le _, rfl, BL⟩
            case round =>
              obtain ⟨i3, hi3, rfl, HB3⟩ := hrel
              have T3e := Aside0.mk (TEe.out.below HB3.out)
              by_cases h3 : i3 < L1
              · have d3 : decide ((i3 : Int) < (L1 : Int)) = true := decide_eq_true (by omega)
                have a0 : (0 : Int) ≤ (i3 : Int) := by omega
                have a1 : (i3 : Int) < (L1 : Int) + 1 := by omega
                have hiE : i3 < E.length := by have := HL1.out; omega
                have hiF : i3 < ls.flatten.length := by have := E9.out; omega
                obtain ⟨k0, k1, k2, k3, k4⟩ := ent_cells (Kd.R_below HRe.out HB3.out) i3 (by rw [List.length_append]; omega)
                have hge : (E ++ [x])[i3]'(by rw [List.length_append]; omega) = E[i3] := List.getElem_append_left hiE
                rw [hge] at k0 k1 k2 k3 k4
                have HG7 := Aside0.mk (E7.out i3 hiE hiF)
                obtain ⟨ga, ca', hva, hcs⟩ := rec_row T3e.out.a (by rw [allT_len, List.take_length]; omega)
                injection hva with hva hx_ hy_
                subst hva
                clear hx_ hy_
                have HCS := Aside0.mk hcs
                generalize E[i3] = ee at k0 k1 k2 k3 k4 HG7
                have hrr : ∃ rr, ls.flatten[i3] = rr := ⟨_, rfl⟩
                obtain ⟨rr, hrr⟩ := hrr
                rw [hrr] at HG7
                have HRR := Aside0.mk hrr
                have hanI : (i3 : Int) < (an : Int) := by have := HAN.out; rw [allT_len, List.take_length] at this; omega
                clear hrr hge hcs
                go_wp2_with fail
                refine (seg_Get.calls wr Te d st4 T3e.out.at_.at_ S4.out 1 (by decide) (HL.out.below T3e.out.at_.be) ee).mono ?_
                rintro e wx ⟨he, bx⟩
                rw [HG7.out] at he
                have he' : e = .returned (.tuple #[.agg #[.int .u64 (rr.seq : Int), .string (B rr.key), .string (B rr.val), .bool rr.gone], .int .i64 0]) := he
                subst he'
                have BX := Aside0.mk (HB3.out.trans (bx.mono HB3.out.size))
                have RX := Aside0.mk (Kd.R_below HCS.out bx)
                clear he bx k0 k1 k2 k3 k4
                have hq := hne_rec (rr.seq : Int) (B rr.key) (B rr.val) rr.gone
                go_wp2
                obtain ⟨wz, hwz⟩ : ∃ wz, wx.alloc (.cells #[.int .u64 (rr.seq : Int), .string (B rr.key), .string (B rr.val), .bool rr.gone] 50) = wz := ⟨_, rfl⟩
                have XZ := Aside0.mk (show wz.heap[wx.heap.size]? = some (.cells #[.int .u64 (rr.seq : Int), .string (B rr.key), .string (B rr.val), .bool rr.gone] 50) by rw [← hwz]; exact blk_new _ _)
                have RZ := Aside0.mk (show Kd.R kR 50 wz w.heap.size TA (.slice (some ⟨ga, 0, none⟩) an ca) (ls.flatten.map RS) by rw [← hwz]; exact Kd.R_alloc RX.out _)
                have BZ := Aside0.mk (show Below we.heap.size we wz by rw [← hwz]; exact BX.out.alloc BX.out.size _)
                rw [hwz]
                clear hwz
                obtain ⟨y0, y1, y2, y3, fy⟩ := cells4f XZ.out
                obtain ⟨r0', r1', r2', r3'⟩ := rec_cells RZ.out i3 (by rw [List.length_map]; exact hiF)
                rw [HRR.out] at r0' r1' r2' r3'
                go_quiet (fail)
                obtain ⟨wq, hwq⟩ : ∃ wq, wz.drewN nq = wq := ⟨_, rfl⟩
                have BQ := Aside0.mk (show Below we.heap.size we wq by rw [← hwq]; exact pw_below_drewN BZ.out nq)
                try rw [hwq]
                clear hwq
                go_wp2_with fail
                go_roundw
                case rel => exact ⟨i3 + 1, by omega, by go_num, BQ⟩
                case measure => simp [intOf]; omega
              · have d3 : decide ((i3 : Int) < (L1 : Int)) = false := decide_eq_false (by omega)
                obtain ⟨x0, x1, x2, x3, x4⟩ := HXe.out.keep (HB3.out.block g HGe.out)
                go_wp2_with fail
                refine (seg_Get.calls wr Te d st4 T3e.out.at_.at_ S4.out 1 (by decide) (HL.out.below T3e.out.at_.be) x).mono ?_
                rintro e wx ⟨he, bx⟩
                rw [E8.out] at he
                have he' : e = .returned (.tuple #[.agg #[.int .u64 9, .string ⟨#[108, 97, 115, 116]⟩, .string ⟨#[]⟩, .bool false], .int .i64 0]) := he
                subst he'
                have BX := Aside0.mk (HB3.out.trans (bx.mono HB3.out.size))
                have XLx := Aside0.mk (blk_below (blk_below XLe.out HB3.out) bx)
                have BXX := Aside0.mk (T3e.out.at_.be.trans (bx.mono T3e.out.at_.be.size))
                clear he bx x0 x1 x2 x3 x4
                go_upto_region 41 with (fail)
                obtain ⟨wz, hwz⟩ : ∃ wz, wx.alloc recL = wz := ⟨_, rfl⟩
                have XZ := Aside0.mk (show wz.heap[wx.heap.size]? = some recL by rw [← hwz]; exact blk_new _ _)
                have XLz := Aside0.mk (show wz.heap[bL]? = some recL by rw [← hwz]; exact blk_alloc XLx.out _)
                have BZ := Aside0.mk (show Below w.heap.size w wz by rw [← hwz]; exact BXX.out.alloc BXX.out.size _)
                rw [hwz]
                clear hwz
                obtain ⟨y0, y1, y2, y3, fy⟩ := cells4f XZ.out
                obtain ⟨z0, z1, z2, z3, fz'⟩ := cells4f XLz.out
                have hq := heq_rec 9 ⟨#[108, 97, 115, 116]⟩ ⟨#[]⟩ false
                go_wp2_with fail
                go_ret
                exact ⟨rfl, BZ.out⟩
theorem torn_wide (A0 : Option Addr) (n0 c0 : Nat) (l0 : List (List SR)) (a1 : Int) (w : World) (K0 : (Kd.slice 36 kL).K w l0 [.slice A0 n0 c0]) (y0 : n0 * 24 ≤ 140737488351232)
    (G0 : l0.length ≤ 9223372036854775807 ∧ ∀ l ∈ l0, l.length ≤ 9223372036854775807 ∧ ∀ e ∈ l, (Lit.int .u64 e.f0).wf = true ∧ e.f1.size ≤ 9223372036854775807 ∧ e.f2.size ≤ 9223372036854775807 ∧ True) (hL : LaidW w) :
    Calls Tryz.prog 5 #[.slice A0 n0 c0, .int .i64 a1] w fun e w' => e = .returned (.bool true) ∧ Below w.heap.size w w' := by
  obtain ⟨A0_, c0_, e0, hc0, hr0⟩ := K0
  simp only [List.cons.injEq, Value.slice.injEq, and_true] at e0
  obtain ⟨rfl, rfl, rfl⟩ := e0
  obtain ⟨rs, rfl⟩ := wf_lists l0 G0.2
  exact torn_walk _ _ rs a1 w hr0 hc0 (by rw [RSS_len] at y0; omega) hL
end Go.Proofs.YthndpknocofioaaGreatDoor.Thw
