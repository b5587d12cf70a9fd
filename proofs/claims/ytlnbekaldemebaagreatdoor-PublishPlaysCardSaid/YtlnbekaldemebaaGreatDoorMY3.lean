/- Several texts of mine in one (Ev13r, Ev13s, Ev13y). -/
import Derived.Test.YtlnbekaldemebaaGreatDoorMK3
import Derived.Test.YtlnbekaldemebaaGreatDoorMX3
import Derived.Test.YtlnbekaldemebaaGreatDoorMZ3
import Derived.Test.YtlnbekaldemebaaGreatDoorMR3
import Derived.Test.YtlnbekaldemebaaGreatDoorPrint12
import Derived.Test.YtlnbekaldemebaaGreatDoorMQ3
import Derived.Deep.CutRange
import Derived.Deep.CutBlock
/-! ## Layer 13 (publish): the document's Upload, Fetch, Next, Latest (printed by gen13r.py). -/
namespace Go.Proofs.YtlnbekaldemebaaGreatDoor.Thw
open Go Go.RowKit Go.Maps Go.Proofs.YtlnbekaldemebaaGreatDoor.Print Go.Proofs.YtlnbekaldemebaaGreatDoorW.PrintWords Go.Proofs.YtlnbekaldemebaaGreatDoorW.PrintLast Go.Proofs.YtlnbekaldemebaaGreatDoorW.PrintMore
set_option linter.unusedVariables false
set_option linter.unusedSimpArgs false
def rfetch4T : Bool × List (List Nat × List Nat) := (true, [([], []), ([0], [0]), ([], []), ([1, 2], [1, 2]), ([], []), ([3, 4], [3, 4])])
def rfetch4B : List Nat := [0, 1, 0, 7, 0, 31]
theorem rfetch4tab : rtab .any (opsOf Tryz.f23 4) = rfetch4T := by kernel_rfl
theorem rfetch4bits : waitsOk rfetch4T.2 rfetch4B = true := by kernel_rfl
def rnext1T : Bool × List (List Nat × List Nat) := (true, [([], []), ([0], [0]), ([1], [1]), ([], []), ([], []), ([3, 4], [3, 4]), ([2, 5], [2, 5]), ([], []), ([7, 6, 5, 0, 1, 2, 3, 4, 5, 6, 7], [6, 7])])
def rnext1B : List Nat := [0, 1, 3, 0, 0, 24, 63, 0, 255]
theorem rnext1tab : rtab .any (opsOf Tryz.f20 1) = rnext1T := by kernel_rfl
theorem rnext1bits : waitsOk rnext1T.2 rnext1B = true := by kernel_rfl
theorem rdS {l : List SgI} {i : Nat} (h : i < l.length) : rd_T45 l (i : Int) = l[i] := by
 unfold rd_T45
 rw [Int.toNat_natCast, List.getD_eq_getElem?_getD, List.getElem?_eq_getElem h]
 rfl
theorem rdR13 {l : List SgI} {i : Nat} (h : i < l.length) : rd_T65 (l.map cR) (i : Int) = cR l[i] := by
 unfold rd_T65
 rw [Int.toNat_natCast, List.getD_eq_getElem?_getD, List.getElem?_map, List.getElem?_eq_getElem h]
 rfl
theorem ev_segs (l : List SgI) (hl : l.length ≤ 1000000) : Ev (fun k => thwartlaw13_segs.f k l) (l.map cR) := by
 have step : ∀ (d i : Nat), i + d = l.length → Ev (fun k => thwartlaw13_segs.l0 k l ((l.take i).map cR) (i : Int)) (l.map cR) := by
  intro d
  induction d with
  | zero =>
   intro i hi
   have ht : l.take i = l := List.take_of_length_le (by omega)
   rw [ht]
   refine Ev.step (f := fun _ => some (l.map cR)) (fun k => ?_) (ev_some fun _ => rfl)
   rw [thwartlaw13_segs.l0, if_neg (by omega)]
  | succ d ih =>
   intro i hi
   have hlt : i < l.length := by omega
   have hx := rdS hlt
   have hi1 : wrap64 ((i : Int) + 1) = ((i + 1 : Nat) : Int) := by rw [wrap64_in (by omega) (by omega)]; omega
   have ih' := ih (i + 1) (by omega)
   rw [List.take_succ_eq_append_getElem hlt, List.map_append, List.map_singleton] at ih'
   refine Ev.step (f := fun k => thwartlaw13_segs.l0 k l ((l.take i).map cR ++ [cR l[i]]) ((i + 1 : Nat) : Int)) (fun k => ?_) ih'
   rw [thwartlaw13_segs.l0, if_pos (by omega), if_pos (by omega), if_pos (by rw [List.length_map, List.length_take]; omega), hx, hi1]
   rfl
 have h0 := step l.length 0 (by omega)
 unfold thwartlaw13_segs.f
 exact h0
theorem segs_calls (l : List SgI) (hl : l.length ≤ 1000000) (A : Option Addr) (c : Nat) (W : World) (hC : Kd.C k45 W A l.length l) (hc : l.length ≤ c) :
  Calls Tryz.prog 21 #[.slice A l.length c] W fun e w' => ∃ A' c', e = .returned (.slice A' l.length c') ∧ Kd.R k65 65 w' W.heap.size (fun _ => True) (.slice A' l.length c') (l.map cR) ∧ Below W.heap.size W w' := by
 obtain ⟨q, hq⟩ := Ev.rounds (ev_segs l hl)
 refine (thwartlaw13_segs.calls q A c l (l.map cR) W hC hc hq).mono ?_
 rintro e w' ⟨v1, rfl, hR, hb⟩
 obtain ⟨A', c', rfl⟩ := Kd.R_slice hR
 rw [List.length_map] at hR ⊢
 exact ⟨A', c', rfl, hR, hb⟩
theorem to_calls (v : Int) (l : List SgI) (hl : l.length ≤ 1000000) (A : Option Addr) (c : Nat) (W : World) (hC : Kd.C k45 W A l.length l) (hc : l.length ≤ c) :
  Calls Tryz.prog 11 #[.agg #[.int .i64 v, .slice A l.length c]] W fun e w' => ∃ A' c', e = .returned (.agg #[.int .i64 v, .slice A' l.length c']) ∧ Kd.R k65 65 w' W.heap.size (fun _ => True) (.slice A' l.length c') (l.map cR) ∧ Below W.heap.size W w' := by
 obtain ⟨q, hq⟩ := Ev.rounds (show Ev (fun k => thwartlaw13_to.f k v l) (v, l.map cR) by unfold thwartlaw13_to.f; exact Ev.bind (ev_segs l hl) (ev_some fun _ => rfl))
 refine (thwartlaw13_to.calls q v A c l v (l.map cR) W hC hc hq).mono ?_
 rintro e w' ⟨v1, rfl, hR, hb⟩
 obtain ⟨A', c', rfl⟩ := Kd.R_slice hR
 rw [List.length_map] at hR ⊢
 exact ⟨A', c', rfl, hR, hb⟩
theorem rBytes_calls (v : Int) (l : List SgI) (hl : l.length ≤ 1000) (hu : ∀ x ∈ l, U32 x) (A : Option Addr) (n c : Nat) (W : World) (b : Nat) (ok : Nat → Prop) (hR : Kd.R k65 65 W b ok (.slice A n c) (l.map cR)) (x : ByteArray) (er : Int) (h : bytesR v l = (x, er)) :
  Calls Tryz.prog 55 #[.agg #[.int .i64 v, .slice A n c]] W fun e w' => e = .returned (.tuple #[.string x, .int .i64 er]) ∧ Below W.heap.size W w' := by
 obtain ⟨q, hq⟩ := Ev.rounds (ev_rBytes v l hl hu)
 rw [h] at hq
 obtain ⟨rfl, hc, hC⟩ := Kd.R_reads' hR
 exact thwartref12_Bytes.calls q v A c (l.map cR) _ _ W hC hc hq
theorem rRead_calls (b : ByteArray) (hb : b.size ≤ 3000) (v : Int) (l : List SgI) (er : Int) (h : rdT (L b) = (v, l.map cR, er)) (W : World) :
  Calls Tryz.prog 54 #[.string b] W fun e w' => ∃ A c, e = .returned (.tuple #[.agg #[.int .i64 v, .slice A l.length c], .int .i64 er]) ∧ Kd.R k65 65 w' W.heap.size (fun _ => True) (.slice A l.length c) (l.map cR) ∧ Below W.heap.size W w' := by
 obtain ⟨q, hq⟩ := Ev.rounds (ev_rRead b hb)
 rw [h] at hq
 refine (thwartref12_Read.calls q b v (l.map cR) er W hq).mono ?_
 rintro e w' ⟨v1, rfl, hR, hB⟩
 obtain ⟨A', c', rfl⟩ := Kd.R_slice hR
 rw [List.length_map] at hR ⊢
 exact ⟨A', c', rfl, hR, hB⟩

/-! ### the names -/
theorem rObject_calls (n : Int) (hn : -9223372036854775808 ≤ n ∧ n ≤ 9223372036854775807) (W : World) : Calls Tryz.prog 58 #[.int .i64 n] W fun e w' => e = .returned (.string (obj n)) ∧ Below W.heap.size W w' := by
 obtain ⟨q, hq⟩ := Ev.rounds (ev_rObject n hn)
 exact thwartref12_Object.calls q n _ W hq
theorem rName_calls (n : Int) (hn : -9223372036854775808 ≤ n ∧ n ≤ 9223372036854775807) (W : World) : Calls Tryz.prog 57 #[.int .i64 n] W fun e w' => e = .returned (.string (mnf n)) ∧ Below W.heap.size W w' := by
 obtain ⟨q, hq⟩ := Ev.rounds (ev_rName n hn)
 exact thwartref12_Name.calls q n _ W hq
theorem rOf_calls (n : Int) (b : ByteArray) (hb : b.size ≤ 4611686018427387904) (W : World) : Calls Tryz.prog 59 #[.int .i64 n, .string b] W fun e w' => e = .returned (.agg #[.int .i64 n, .int .i64 (b.size : Int), .int .u32 ((sumS2 (L b) : Nat) : Int)]) ∧ Below W.heap.size W w' := by
 obtain ⟨q, hq⟩ := Ev.rounds (ev_rOf n b hb)
 exact thwartref12_Of.calls q n b _ _ _ W hq
theorem eqSegR (d : Nat) (w : World) (x0 y0 x1 y1 x2 y2 : Int) :
  (Op.equalIn (d + 2) 65 (.agg #[.int .i64 x0, .int .i64 x1, .int .u32 x2]) (.agg #[.int .i64 y0, .int .i64 y1, .int .u32 y2])).run Tryz.prog w = .ok (x0 == y0 && (x1 == y1 && (x2 == y2))) w := by
 refine eqA_of Tryz.underlying65 (by kernel_rfl) ?_
 refine eqf_cons (by rfl) (by go_simp; rfl) (by go_simp; rfl) (by go_simp) ?_
 refine eqf_cons (by rfl) (by go_simp; rfl) (by go_simp; rfl) (by go_simp) ?_
 exact eqf_last (by rfl) (by go_simp; rfl) (by go_simp; rfl) (by go_simp)
theorem infoSegR : (Tryz.prog.info? 65).map (fun i => (i.zero, i.size, i.bytes)) = some (some (.agg #[.int .i64 0, .int .i64 0, .int .u32 0]), 3, 24) := by kernel_rfl
/-! ### the document's remote, from world to world -/
structure DSt (w : World) (T : Nat → Prop) (r : Nat) (x : Rem) (w' : World) (T' : Nat → Prop) : Prop where
 at_ : RfR w' T' r (refL x.m) x.s x.n
 sub : ∀ k, T' k → gr T w k ∧ k < w'.heap.size
 frm : Frm T w w'
section
variable {w w1 w' w'' : World} {T T' : Nat → Prop} {r : Nat} {x y : Rem}
theorem DSt.refl (h : RfR w T r (refL x.m) x.s x.n) : DSt w T r x w T := ⟨h, fun k hk => ⟨Or.inl hk, h.old k hk⟩, Frm.refl _ _⟩
theorem DSt.below (h : DSt w T r x w' T') (b : Below w'.heap.size w' w'') : DSt w T r x w'' T' :=
 ⟨h.at_.below b, fun k hk => ⟨(h.sub k hk).1, Nat.lt_of_lt_of_le (h.sub k hk).2 b.size⟩, h.frm.andThen (Frm.of_new (S := T') b) (fun i hi => (h.sub i hi).1)⟩
theorem DSt.step (h : DSt w T r x w' T') (h' : RfR w'' (Thw.nA T' w' w'') r (refL y.m) y.s y.n) (f : Frm T' w' w'') : DSt w T r y w'' (Thw.nA T' w' w'') :=
 ⟨h', fun k hk => ⟨hk.1.elim (fun ht => (h.sub k ht).1) (fun hle => Or.inr (Nat.le_trans h.frm.size hle)), hk.2⟩, h.frm.andThen f (fun i hi => (h.sub i hi).1)⟩
theorem DSt.still (h : DSt w T r x w' T') (h' : RfR w'' T' r (refL y.m) y.s y.n) (f : Frm T' w' w'') : DSt w T r y w'' T' :=
 ⟨h', fun k hk => ⟨(h.sub k hk).1, Nat.lt_of_lt_of_le (h.sub k hk).2 f.size⟩, h.frm.andThen f (fun i hi => (h.sub i hi).1)⟩
theorem DSt.keeps (h : DSt w T r x w' T') {g : Nat} {o : Obj} (hg : w.heap[g]? = some o) (hn : ¬ T g) : w'.heap[g]? = some o := h.frm.keeps hg hn
theorem DSt.not (h : DSt w T r x w' T') {g : Nat} (hg : g < w.heap.size) (hn : ¬ T g) : ¬ T' g := fun hk => (h.sub g hk).1.elim hn (fun hle => by omega)
/-- What a call leaves. -/
def DPo (w : World) (T : Nat → Prop) (r : Nat) (x : Rem) (w' : World) : Prop := ∃ T', DSt w T r x w' T'
theorem DSt.back (h : DSt w1 T r x w' T') (hb : Below w.heap.size w w1) : DSt w T r x w' T' :=
 ⟨h.at_, fun k hk => ⟨(h.sub k hk).1.imp id (fun hle => Nat.le_trans hb.size hle), (h.sub k hk).2⟩, (Frm.of_new (S := T) hb).andThen h.frm (fun i hi => Or.inl hi)⟩
theorem DSt.far (h : DSt w T r x w' T') {g : Nat} (hg : w.heap.size ≤ g) (hn : ¬ T' g) (f3 : Frm (fun i => i = g) w' w'') : DSt w T r x w'' T' :=
 ⟨h.at_.frm f3 (fun k _ hk e => hn (e ▸ hk)), fun k hk => ⟨(h.sub k hk).1, Nat.lt_of_lt_of_le (h.sub k hk).2 f3.size⟩, h.frm.andThen f3 (fun i hi => Or.inr (by rw [hi]; exact hg))⟩
theorem DSt.put3 (h : DSt w T r x w' T') {g : Nat} (hg : w.heap.size ≤ g) (hn : ¬ T' g) (u0 u1 u2 : Value) : DSt w T r x (((w'.setCell ⟨g, 0, none⟩ u0).setCell ⟨g, 1, none⟩ u1).setCell ⟨g, 2, none⟩ u2) T' :=
 h.far hg hn ((((Frm.refl (fun i => i = g) w').setCell (Or.inl rfl) _).setCell (Or.inl rfl) _).setCell (Or.inl rfl) _)
theorem DSt.put2 (h : DSt w T r x w' T') {g : Nat} (hg : w.heap.size ≤ g) (hn : ¬ T' g) (u0 u1 : Value) : DSt w T r x ((w'.setCell ⟨g, 0, none⟩ u0).setCell ⟨g, 1, none⟩ u1) T' :=
 h.far hg hn (((Frm.refl (fun i => i = g) w').setCell (Or.inl rfl) _).setCell (Or.inl rfl) _)
theorem R_dst {α : Type} {d : Kd α} {e : Nat} {base : Nat} {ok : Nat → Prop} {v : Value} {xs : List α} (h : d.R e w base ok v xs) (S : DSt w T r x w' T') (hT : ∀ k, T k → k < base) : d.R e w' base (fun k => ¬ T' k) v xs :=
 Kd.R_mono (Kd.R_move (Kd.R_bound h) (fun k hk' => S.frm.block k hk'.2.2.1 (fun ht => by have := hT k ht; have := hk'.2.1; omega))) (fun k hk' hn => by
  rcases (S.sub k hn).1 with ht | hge
  ·have := hT k ht; have := hk'.2.1; omega
  ·have := hk'.2.2.1; omega)
end
/-- Not too many objects, each once. -/
structure GoodR (x : Rem) : Prop where
 len : x.m.length ≤ 99000
 nd : (x.m.map (·.1)).Nodup
theorem put_lenD (m : Fls) (k b : ByteArray) : (Thw.put m k b).length ≤ m.length + 1 := by
 unfold Thw.put
 split
 ·rw [List.length_map]; omega
 ·rw [List.length_append]; simp
theorem put_st (st : Rem) (k b : ByteArray) : (st.put k b).1.m = st.m ∨ (st.put k b).1.m = Thw.put st.m k b := by
 unfold Rem.put
 split
 ·exact Or.inl rfl
 ·exact Or.inr rfl
theorem putNew_st (st : Rem) (k b : ByteArray) : (st.putNew k b).1.m = st.m ∨ (st.putNew k b).1.m = Thw.put st.m k b := by
 unfold Rem.putNew
 split
 ·exact Or.inl rfl
 ·cases look st.m k with
  | none => exact Or.inr rfl
  | some v => exact Or.inl rfl
theorem GoodR.put {x : Rem} (h : GoodR x) (k b : ByteArray) : (x.put k b).1.m.length ≤ 100000 ∧ ((x.put k b).1.m.map (·.1)).Nodup := by
 have h1 := h.len
 rcases put_st x k b with e | e
 ·rw [e]; exact ⟨by omega, h.nd⟩
 ·rw [e]; exact ⟨by have := put_lenD x.m k b; omega, nodup_put' h.nd k b⟩
theorem GoodR.putNew {x : Rem} (h : GoodR x) (k b : ByteArray) : (x.putNew k b).1.m.length ≤ 100000 ∧ ((x.putNew k b).1.m.map (·.1)).Nodup := by
 have h1 := h.len
 rcases putNew_st x k b with e | e
 ·rw [e]; exact ⟨by omega, h.nd⟩
 ·rw [e]; exact ⟨by have := put_lenD x.m k b; omega, nodup_put' h.nd k b⟩
theorem GoodR.len' {x : Rem} (h : GoodR x) : x.m.length ≤ 100000 := by have := h.len; omega
theorem get_stD (st : Rem) (k : ByteArray) : (st.get k).1 = st.next := by
 unfold Rem.get
 split
 ·rfl
 ·split <;> rfl
theorem dGet (w : World) (A : Nat → Prop) (g : Nat) (st : Rem) (h : RfR w A g (refL st.m) st.s st.n) (hl : st.m.length ≤ 100000) (hn : (st.m.map (·.1)).Nodup) (k : ByteArray) :
  Calls Tryz.prog 53 #[.pointer (some ⟨g, 0, none⟩), .string k] w (fun e w' => e = .returned (.tuple #[.string (st.get k).2.1, .int .i64 (st.get k).2.2]) ∧ RfR w' (Thw.nA A w w') g (refL (st.get k).1.m) (st.get k).1.s (st.get k).1.n ∧ Frm A w w') := by
 refine (rf_Get w A g st h hl hn k).mono ?_
 rintro e w' ⟨he, h1, h2⟩
 rw [get_stD]
 exact ⟨he, h1.grow h2.size, h2⟩
theorem dGet_still (w : World) (A : Nat → Prop) (g : Nat) (st : Rem) (h : RfR w A g (refL st.m) st.s st.n) (hl : st.m.length ≤ 100000) (hn : (st.m.map (·.1)).Nodup) (k : ByteArray) :
  Calls Tryz.prog 53 #[.pointer (some ⟨g, 0, none⟩), .string k] w (fun e w' => e = .returned (.tuple #[.string (st.get k).2.1, .int .i64 (st.get k).2.2]) ∧ RfR w' A g (refL (st.get k).1.m) (st.get k).1.s (st.get k).1.n ∧ Frm A w w') := by
 refine (rf_Get w A g st h hl hn k).mono ?_
 rintro e w' ⟨he, h1, h2⟩
 rw [get_stD]
 exact ⟨he, h1, h2⟩
set_option maxHeartbeats 6400000 in
set_option maxRecDepth 100000 in
theorem ref_Upload.calls (w : World) (T : Nat → Prop) (r : Nat) (st : Rem) (h : RfR w T r (refL st.m) st.s st.n) (hgd : GoodR st) (n : Int) (hn : -9223372036854775808 ≤ n ∧ n ≤ 9223372036854775807) (b : ByteArray) (hbz : b.size ≤ 140737488351232) :
  Calls Tryz.prog 22 #[.pointer (some ⟨r, 0, none⟩), .int .i64 n, .string b] w fun e w' =>
   e = .returned (.tuple #[segV (pubUpload st n b).2.1, .int .i64 (pubUpload st n b).2.2]) ∧ DPo w T r (pubUpload st n b).1 w' := by
 have H := Aside0.mk h
 have HT := Aside0.mk h.old
 have HGD := Aside0.mk hgd
 have HBZ := Aside0.mk hbz
 clear h hgd hbz
 obtain ⟨X, hX⟩ : ∃ X, pubUpload st n b = X := ⟨_, rfl⟩
 rw [hX]
 have HX := Aside0.mk hX
 clear hX
 go_enter Tryz.func22, Tryz.ntmps22
 go_upto_region 1 with (fail)
 obtain ⟨w1, hw1⟩ : ∃ w1, w.alloc (.cells #[.int .i64 0, .int .i64 0, .int .u32 0] 65) = w1 := ⟨_, rfl⟩
 have XR := Aside0.mk (show w1.heap[w.heap.size]? = some (.cells #[.int .i64 0, .int .i64 0, .int .u32 0] 65) by rw [← hw1]; exact blk_new _ _)
 have B1 := Aside0.mk (show Below w.heap.size w w1 by rw [← hw1]; exact (Below.refl _ w).alloc (Nat.le_refl _) _)
 have R1 := Aside0.mk (show DSt w1 T r st w1 T by rw [← hw1]; exact DSt.refl (H.out.below (below_alloc (Below.refl _ _) _)))
 rw [hw1]
 clear hw1
 obtain ⟨gq, hgq⟩ : ∃ g, w.heap.size = g := ⟨_, rfl⟩
 have HG := Aside0.mk (show w.heap.size ≤ gq by omega)
 have HNT := Aside0.mk (show ¬ T gq from fun hk => by have := HT.out _ hk; omega)
 rw [hgq] at XR ⊢
 clear hgq
 have HGL := Aside0.mk (lt_of_block XR.out)
 have bad := Aside0.mk (show (n < 0 ∨ 999999 < n ∨ 1048576 < b.size) → X = (st, zSg, 1) from fun hb => by rw [← HX.out]; unfold pubUpload; rw [if_pos hb])
 by_cases h1 : n < 0
 ·have d1 : decide (n < 0) = true := decide_eq_true (by omega)
  have hbad := Aside0.mk (bad.out (by omega))
  obtain ⟨c0, c1, c2, fr⟩ := cells3f XR.out
  go_wp2_with fail
  refine bodyPost_ret (v := .tuple #[segV zSg, .int .i64 1]) (results_row_tmp (q := 7) rfl _ _ gq _ _ (0, 0) _ rfl (seg_put XR.out _ _ _) Tryz.underlying65 rfl (by kernel_rfl)) rfl ?_
  rw [hbad.out]
  exact ⟨rfl, _, (R1.out.back B1.out).put3 HG.out HNT.out _ _ _⟩
 have d1 : decide (n < 0) = false := decide_eq_false (by omega)
 by_cases h2 : 999999 < n
 ·have d2 : decide (999999 < n) = true := decide_eq_true (by omega)
  have hbad := Aside0.mk (bad.out (by omega))
  obtain ⟨c0, c1, c2, fr⟩ := cells3f XR.out
  go_wp2_with fail
  refine bodyPost_ret (v := .tuple #[segV zSg, .int .i64 1]) (results_row_tmp (q := 7) rfl _ _ gq _ _ (0, 0) _ rfl (seg_put XR.out _ _ _) Tryz.underlying65 rfl (by kernel_rfl)) rfl ?_
  rw [hbad.out]
  exact ⟨rfl, _, (R1.out.back B1.out).put3 HG.out HNT.out _ _ _⟩
 have d2 : decide (999999 < n) = false := decide_eq_false (by omega)
 by_cases h3 : 1048576 < b.size
 ·have d3 : decide ((1048576 : Int) < (b.size : Int)) = true := decide_eq_true (by omega)
  have hbad := Aside0.mk (bad.out (by omega))
  obtain ⟨c0, c1, c2, fr⟩ := cells3f XR.out
  go_wp2_with fail
  refine bodyPost_ret (v := .tuple #[segV zSg, .int .i64 1]) (results_row_tmp (q := 7) rfl _ _ gq _ _ (0, 0) _ rfl (seg_put XR.out _ _ _) Tryz.underlying65 rfl (by kernel_rfl)) rfl ?_
  rw [hbad.out]
  exact ⟨rfl, _, (R1.out.back B1.out).put3 HG.out HNT.out _ _ _⟩
 have d3 : decide ((1048576 : Int) < (b.size : Int)) = false := decide_eq_false (by omega)
 have hok : ¬ (n < 0 ∨ 999999 < n ∨ 1048576 < b.size) := by omega
 have e1 := Aside0.mk (show (if ((st.put (obj n) b).1.get (obj n)).2.2 ≠ 0 then (((st.put (obj n) b).1.get (obj n)).1, zSg, ((st.put (obj n) b).1.get (obj n)).2.2)
  else if ((st.put (obj n) b).1.get (obj n)).2.1 ≠ b then (((st.put (obj n) b).1.get (obj n)).1, zSg, 4)
  else (((st.put (obj n) b).1.get (obj n)).1, sgOf n b, 0)) = X by rw [← HX.out]; unfold pubUpload; rw [if_neg hok])
 clear bad hok
 go_wp2_with fail
 refine (rObject_calls n hn _).mono ?_
 rintro e w2 ⟨rfl, b2⟩
 have R2 := Aside0.mk (R1.out.below b2)
 clear b2 R1
 go_wp2_with fail
 refine (rf_Put w2 T r st R2.out.at_ HGD.out.len' HGD.out.nd (obj n) b).mono ?_
 rintro e w3 ⟨rfl, h3, f3⟩
 have R3 := Aside0.mk (R2.out.step h3 f3)
 clear h3 f3 R2
 go_wp2_with fail
 refine (rObject_calls n hn _).mono ?_
 rintro e w4 ⟨rfl, b4⟩
 have R4 := Aside0.mk (R3.out.below b4)
 clear b4 R3
 go_wp2_with fail
 refine (dGet w4 _ r (st.put (obj n) b).1 R4.out.at_ (HGD.out.put _ _).1 (HGD.out.put _ _).2 (obj n)).mono ?_
 rintro e w5 ⟨rfl, h5, f5⟩
 have R5 := Aside0.mk (R4.out.step h5 f5)
 have XR5 := Aside0.mk (R5.out.keeps XR.out HNT.out)
 have N5 := Aside0.mk (R5.out.not HGL.out HNT.out)
 generalize (st.put (obj n) b).1.get (obj n) = gt at e1 R5 ⊢
 obtain ⟨g1, g2, g3⟩ := gt
 simp only at e1 R5 ⊢
 clear h5 f5 R4 XR
 obtain ⟨c0, c1, c2, fr⟩ := cells3f XR5.out
 by_cases he : g3 = 0
 ·subst he
  rw [if_neg (by simp)] at e1
  by_cases hc : g2 = b
  ·subst hc
   rw [if_neg (by simp)] at e1
   have heq : (g2.toList == g2.toList) = true := beq_self_eq_true _
   obtain ⟨z, hz⟩ : ∃ z, ((sumS2 (L g2) : Nat) : Int) = z := ⟨_, rfl⟩
   have HOF := Aside0.mk (fun W => rOf_calls n g2 (by have := HBZ.out; omega) W)
   have HSG := Aside0.mk (show sgOf n g2 = ⟨n, g2.size, z⟩ by unfold sgOf; rw [hz])
   rw [hz] at HOF
   clear hz
   go_wp2_with fail
   refine (HOF.out _).mono ?_
   rintro e w6 ⟨rfl, b6⟩
   have R6 := Aside0.mk (R5.out.below b6)
   have XR6 := Aside0.mk (blk_below XR5.out b6)
   clear b6 c0 c1 c2 fr
   obtain ⟨c0, c1, c2, fr⟩ := cells3f XR6.out
   go_wp2_with fail
   refine bodyPost_ret (v := .tuple #[.agg #[.int .i64 n, .int .i64 (g2.size : Int), .int .u32 z], .int .i64 0]) (results_row_tmp (q := 7) rfl _ _ gq _ _ (0, 0) _ rfl (seg_put XR6.out _ _ _) Tryz.underlying65 rfl (by kernel_rfl)) rfl ?_
   rw [← e1.out, HSG.out]
   exact ⟨rfl, _, (R6.out.back B1.out).put3 HG.out N5.out _ _ _⟩
  ·rw [if_pos hc] at e1
   have heq : (g2.toList == b.toList) = false := beq_eq_false_iff_ne.2 (fun e => hc (WideShapes.bytes_inj (by rw [Lib.toList_data, Lib.toList_data] at e; exact e)))
   go_wp2_with fail
   refine bodyPost_ret (v := .tuple #[segV zSg, .int .i64 4]) (results_row_tmp (q := 7) rfl _ _ gq _ _ (0, 0) _ rfl (seg_put XR5.out _ _ _) Tryz.underlying65 rfl (by kernel_rfl)) rfl ?_
   rw [← e1.out]
   exact ⟨rfl, _, (R5.out.back B1.out).put3 HG.out N5.out _ _ _⟩
 ·rw [if_pos he] at e1
  have heq : (g3 == 0) = false := beq_eq_false_iff_ne.2 he
  go_wp2_with fail
  refine bodyPost_ret (v := .tuple #[segV zSg, .int .i64 g3]) (results_row_tmp (q := 7) rfl _ _ gq _ _ (0, 0) _ rfl (seg_put XR5.out _ _ _) Tryz.underlying65 rfl (by kernel_rfl)) rfl ?_
  rw [← e1.out]
  exact ⟨rfl, _, (R5.out.back B1.out).put3 HG.out N5.out _ _ _⟩
set_option maxHeartbeats 6400000 in
set_option maxRecDepth 100000 in
theorem ref_Fetch.calls (w : World) (T : Nat → Prop) (r : Nat) (st : Rem) (h : RfR w T r (refL st.m) st.s st.n) (hgd : GoodR st) (s : SgI) (hn : -9223372036854775808 ≤ s.f0 ∧ s.f0 ≤ 9223372036854775807) (hbz : ∀ k b, look st.m k = some b → b.size ≤ 140737488351232) :
  Calls Tryz.prog 23 #[.pointer (some ⟨r, 0, none⟩), segV s] w fun e w' =>
   e = .returned (.tuple #[.string (pubFetch st s).2.1, .int .i64 (pubFetch st s).2.2]) ∧ DPo w T r (pubFetch st s).1 w' := by
 have H := Aside0.mk h
 have HT := Aside0.mk h.old
 have HGD := Aside0.mk hgd
 have HZ := Aside0.mk (show (st.get (obj s.f0)).2.1.size ≤ 140737488351232 by
  unfold Rem.get
  split
  ·exact Nat.zero_le _
  ·cases hl : look st.m (obj s.f0) with
   | none => exact Nat.zero_le _
   | some b => exact hbz _ b hl)
 clear h hgd hbz
 obtain ⟨X, hX⟩ : ∃ X, pubFetch st s = X := ⟨_, rfl⟩
 rw [hX]
 have HX := Aside0.mk hX
 have e1 := Aside0.mk (show (if (st.get (obj s.f0)).2.2 ≠ 0 then ((st.get (obj s.f0)).1, ⟨#[]⟩, (st.get (obj s.f0)).2.2)
  else if sgEq (sgOf s.f0 (st.get (obj s.f0)).2.1) s = false then ((st.get (obj s.f0)).1, ⟨#[]⟩, 4)
  else ((st.get (obj s.f0)).1, (st.get (obj s.f0)).2.1, 0)) = X by rw [← hX]; rfl)
 clear hX HX
 obtain ⟨s0, s1, s2⟩ := s
 simp only at hn e1 HZ ⊢
 go_enter Tryz.func23, Tryz.ntmps23
 go_upto_region 1 with (fail)
 obtain ⟨w1, hw1⟩ : ∃ w1, w.alloc (.cells #[.int .i64 s0, .int .i64 s1, .int .u32 s2] 65) = w1 := ⟨_, rfl⟩
 have XP := Aside0.mk (show w1.heap[w.heap.size]? = some (.cells #[.int .i64 s0, .int .i64 s1, .int .u32 s2] 65) by rw [← hw1]; exact blk_new _ _)
 have B1 := Aside0.mk (show Below w.heap.size w w1 by rw [← hw1]; exact (Below.refl _ w).alloc (Nat.le_refl _) _)
 have R1 := Aside0.mk (show DSt w1 T r st w1 T by rw [← hw1]; exact DSt.refl (H.out.below (below_alloc (Below.refl _ _) _)))
 rw [hw1]
 clear hw1
 obtain ⟨gp, hgp⟩ : ∃ g, w.heap.size = g := ⟨_, rfl⟩
 have HNT := Aside0.mk (show ¬ T gp from fun hk => by have := HT.out _ hk; omega)
 rw [hgp] at XP ⊢
 clear hgp
 obtain ⟨p0, p1, p2, fp⟩ := cells3f XP.out
 go_wp2_with fail
 refine (rObject_calls s0 hn _).mono ?_
 rintro e w2 ⟨rfl, b2⟩
 have R2 := Aside0.mk (R1.out.below b2)
 clear b2 R1 p0 p1 p2 fp
 go_wp2_with fail
 refine (dGet w2 T r st R2.out.at_ HGD.out.len' HGD.out.nd (obj s0)).mono ?_
 rintro e w3 ⟨rfl, h3, f3⟩
 obtain ⟨T3, R3⟩ : ∃ T3, Aside0 (DSt w1 T r (st.get (obj s0)).1 w3 T3) := ⟨_, ⟨R2.out.step h3 f3⟩⟩
 have XP3 := Aside0.mk (R3.out.keeps XP.out HNT.out)
 generalize st.get (obj s0) = gt at e1 R3 HZ ⊢
 obtain ⟨g1, g2, g3⟩ := gt
 simp only at e1 R3 HZ ⊢
 clear h3 f3 R2 XP
 by_cases he : g3 = 0
 ·subst he
  rw [if_neg (by simp)] at e1
  obtain ⟨z, hz⟩ : ∃ z, ((sumS2 (L g2) : Nat) : Int) = z := ⟨_, rfl⟩
  have HOF := Aside0.mk (fun W => rOf_calls s0 g2 (by have := HZ.out; omega) W)
  have HSG := Aside0.mk (show sgEq (sgOf s0 g2) ⟨s0, s1, s2⟩ = (((g2.size : Int) == s1) && (z == s2)) by
   unfold sgEq sgOf
   rw [hz]
   simp)
  rw [hz] at HOF
  clear hz
  have hq : ∀ W : World, (binOp BinOp.neq 65 (.agg #[.int .i64 s0, .int .i64 (g2.size : Int), .int .u32 z]) (.agg #[.int .i64 s0, .int .i64 s1, .int .u32 s2])).run Tryz.prog W = .ok (.bool (!(((g2.size : Int) == s1) && (z == s2)))) W := fun W => by
   simp [binOp, Op.equal, Op.maxDepth, eqSegR 9998 W]
  rw [HSG.out] at e1
  generalize hbb : (((g2.size : Int) == s1) && (z == s2)) = bb at hq e1
  clear hbb HSG
  go_wp2_with fail
  refine region_draw (n := 6) (S := fun W => W.heap[gp]? = some (.cells #[.int .i64 s0, .int .i64 s1, .int .u32 s2] 65)) (ds := []) #[false, false, false, false, false, false] (by kernel_rfl) rfl rfl (fun W => DSt w1 T r g1 W T3 ∧ W.heap[gp]? = some (.cells #[.int .i64 s0, .int .i64 s1, .int .u32 s2] 65)) ⟨R3.out.below (below_drew1 (Below.refl _ _)), blk_drew XP3.out⟩ (fun W h => h.2) ?_
  rintro wy ⟨ry, xy⟩
  refine with_tabW rfetch4tab rfetch4bits (fun HT_ HW_ => ?_)
  have RY := Aside0.mk ry
  have XY := Aside0.mk xy
  clear ry xy
  refine pure_ (i := 0) (N := some 19) (v := ?_) (a' := ?_) #[true, false, false, false, false, false] rfl rfl (any_of HT_.out (by kernel_rfl)) (fun _ _ _ h => h) (Or.inl ⟨by rfl, ?_⟩) ?_ ?_
  rotate_left
  ·intro w'
   go_simp
   with_reducible rfl
  rotate_left
  ·simp only [Act.put, List.setIfInBounds_toArray, List.set_cons_zero, List.set_cons_succ, i64_w, i32_w]
   rfl
  refine take_ (i := 1) (N := some 20) (v := ?_) (a' := ?_) #[true, true, false, false, false, false] rfl rfl (take_ofW HT_.out HW_.out (by kernel_rfl)) (fun _ _ _ h => h) (Or.inl ⟨by rfl, ?_⟩) XY.out ?_ ?_
  rotate_left
  ·intro w' hW
   obtain ⟨c0, c1, c2, fr⟩ := cells3f hW
   go_simp
   with_reducible rfl
  rotate_left
  ·simp only [Act.put, List.setIfInBounds_toArray, List.set_cons_zero, List.set_cons_succ, i64_w, i32_w]
   rfl
  refine pure_ (i := 2) (N := some 21) (v := ?_) (a' := ?_) #[true, true, true, false, false, false] rfl rfl (any_of HT_.out (by kernel_rfl)) (fun _ _ _ h => h) (Or.inl ⟨by rfl, ?_⟩) ?_ ?_
  rotate_left
  ·intro w'
   go_simp
   with_reducible rfl
  rotate_left
  ·simp only [Act.put, List.setIfInBounds_toArray, List.set_cons_zero, List.set_cons_succ, i64_w, i32_w]
   rfl
  refine take_ (i := 4) (N := some 23) (v := ?_) (a' := ?_) #[true, true, true, false, true, false] rfl rfl (take_ofW HT_.out HW_.out (by kernel_rfl)) (fun _ _ _ h => h) (Or.inl ⟨by rfl, ?_⟩) XY.out ?_ ?_
  rotate_left
  ·intro w' hW
   obtain ⟨c0, c1, c2, fr⟩ := cells3f hW
   go_simp
   with_reducible rfl
  rotate_left
  ·simp only [Act.put, List.setIfInBounds_toArray, List.set_cons_zero, List.set_cons_succ, i64_w, i32_w]
   rfl
  refine one_ (i := 3) (N := some 22) #[true, true, true, true, true, false] rfl rfl (one_of HT_.out (by kernel_rfl)) (by decide) (fun K hK => ?_)
  refine goes_ Tryz.func59 (by kernel_rfl) rfl #[.int .i64 s0, .string g2] (by rfl) rfl rfl (by (try simp only [List.map_toArray, List.map_cons, List.map_nil]); first | done | rfl) ?_
  refine (HOF.out _).mono ?_
  rintro e wz ⟨rfl, bz⟩
  refine ⟨_, rfl, ?_⟩
  have RZ := Aside0.mk (RY.out.below bz)
  have XZ := Aside0.mk (blk_below XY.out bz)
  clear bz
  refine hK.out _ _ XZ.out (fun _ => ?_)
  clear hK K
  refine norm_ (a' := ?_) ?_ ?_
  rotate_left
  ·show Act.put _ (some 22) _ = _
   simp only [Act.put, List.setIfInBounds_toArray, List.set_cons_zero, List.set_cons_succ, i64_w, i32_w]
   rfl
  refine pure_ (i := 5) (N := some 24) (v := ?_) (a' := ?_) #[true, true, true, true, true, true] rfl rfl (any_of HT_.out (by kernel_rfl)) (fun _ _ _ h => h) (Or.inl ⟨by rfl, ?_⟩) ?_ ?_
  rotate_left
  ·intro w'
   go_simp
   with_reducible rfl
  rotate_left
  ·simp only [Act.put, List.setIfInBounds_toArray, List.set_cons_zero, List.set_cons_succ, i64_w, i32_w]
   rfl
  refine done_ (done_of HT_.out (by kernel_rfl)) ?_
  cases bb with
  | true =>
   rw [if_neg (by simp)] at e1
   go_wp2_with fail
   go_ret2
   rw [← e1.out]
   exact ⟨rfl, _, RZ.out.back B1.out⟩
  | false =>
   rw [if_pos rfl] at e1
   go_wp2_with fail
   go_ret2
   rw [← e1.out]
   exact ⟨rfl, _, RZ.out.back B1.out⟩
 ·rw [if_pos he] at e1
  have heq : (g3 == 0) = false := beq_eq_false_iff_ne.2 he
  go_wp2_with fail
  go_ret2
  rw [← e1.out]
  exact ⟨rfl, _, R3.out.back B1.out⟩
/-- What the document's Latest, Next hand back. -/
def DanPost (w : World) (T : Nat → Prop) (r : Nat) (X : Rem × (Int × List SgI) × Int) (e : Ending) (w' : World) : Prop :=
 ∃ A c T', e = .returned (.tuple #[.agg #[.int .i64 X.2.1.1, .slice A X.2.1.2.length c], .int .i64 X.2.2]) ∧ Kd.R k65 65 w' w.heap.size (fun k => ¬ T' k) (.slice A X.2.1.2.length c) (X.2.1.2.map cR) ∧ DSt w T r X.1 w' T'
theorem dan_end {w V : World} {T T' : Nat → Prop} {r gr p q : Nat} {x : Rem} {fn : Func} {tmps : Array Value} (hfn : fn.results = #[.cell p 32, .tmp q]) (S : DSt w T r x V T') (hgr : w.heap.size ≤ gr) (N : ¬ T' gr) {v0 v1 : Value} (XR : V.heap[gr]? = some (.cells #[v0, v1] 32)) (n e : Int) {A : Option Addr} {c : Nat} {l : List SgI} (R : Kd.R k65 65 V w.heap.size (fun k => ¬ T' k) (.slice A l.length c) (l.map cR))
  (h6 : tmps.getD p undef = .pointer (some ⟨gr, 0, none⟩)) (h7 : tmps.getD q undef = .int .i64 e) {X : Rem × (Int × List SgI) × Int} (hX : (x, (n, l), e) = X) {a' : Act} (ha : a'.tmps = tmps) (hd : a'.defers = []) :
  bodyPost Tryz.prog fn (DanPost w T r X) .ret a' ((V.setCell ⟨gr, 0, none⟩ (.int .i64 n)).setCell ⟨gr, 1, none⟩ (.slice A l.length c)) := by
 subst hX
 subst ha
 have hr := results_row_tmp (P := Tryz.prog) (fn := fn) (p := p) (q := q) (ty := 32) hfn a'.tmps _ gr _ _ (0, 0) _ h6 (two_put XR (.int .i64 n) (.slice A l.length c)) Tryz.underlying32 rfl (by kernel_rfl)
 rw [h7] at hr
 refine bodyPost_ret (v := .tuple #[.agg #[.int .i64 n, .slice A l.length c], .int .i64 e]) hr hd ⟨A, c, T', rfl, ?_, S.put2 hgr N _ _⟩
 have R1 := Kd.R_types R XR (by decide)
 exact Kd.R_mono (Kd.R_step R1 (fun k hk _ => by rw [Below.heap_setCell _ _ _ _ hk.2, Below.heap_setCell _ _ _ _ hk.2])) (fun _ h => h.1)
theorem bytesR_one {v : Int} {l : List SgI} (h : (bytesR v l).2 ≠ 0) : (bytesR v l).2 = 1 := by
 unfold bytesR at *
 split at h
 ·exact absurd rfl h
 ·rename_i hr; rw [if_neg hr]
theorem kR_KM {w : World} {base : Nat} {ok : Nat → Prop} (x : SgR) (cs : List Value) (h : Kd.K k65 w x cs) : Kd.M k65 w base ok x cs := by rw [k65_open h]; exact k65_mkM _ _ _ x
set_option maxHeartbeats 12800000 in
set_option maxRecDepth 100000 in
theorem ref_Next.calls (w : World) (T : Nat → Prop) (r : Nat) (st : Rem) (h : RfR w T r (refL st.m) st.s st.n) (hgd : GoodR st) (v : Int) (hv : -9223372036854775808 ≤ v ∧ v ≤ 9223372036854775807) (Am : Option Addr) (nm cm : Nat) (A : Option Addr) (c : Nat) (segs : List SgI) (hC : ∀ W, Frm T w W → Kd.C k65 W A segs.length (segs.map cR)) (hc : segs.length ≤ c) (hl : segs.length ≤ 1000) (hu : ∀ x ∈ segs, U32 x) :
  Calls Tryz.prog 20 #[.pointer (some ⟨r, 0, none⟩), .agg #[.int .i64 v, .slice Am nm cm], .slice A segs.length c] w (DanPost w T r (pubNext st v segs)) := by
 have H := Aside0.mk h
 have HT := Aside0.mk h.old
 have HGD := Aside0.mk hgd
 have HC := Aside0.mk hC
 have HL := Aside0.mk hl
 have HU := Aside0.mk hu
 clear h hgd hC hl hu
 obtain ⟨X, hX⟩ : ∃ X, pubNext st v segs = X := ⟨_, rfl⟩
 rw [hX]
 unfold pubNext at hX
 have HWR : -9223372036854775808 ≤ wrap64 (v + 1) ∧ wrap64 (v + 1) ≤ 9223372036854775807 := wrap64_rng _
 obtain ⟨n1, hn1⟩ : ∃ n, wrap64 (v + 1) = n := ⟨_, rfl⟩
 have HN1 := Aside0.mk (show wrap64 (v + 1) = n1 from hn1)
 rw [hn1] at hX HWR
 have HB1 := Aside0.mk (bytesR_one (v := n1) (l := segs))
 obtain ⟨br, hbr⟩ : ∃ br, bytesR n1 segs = br := ⟨_, rfl⟩
 rw [hbr] at hX HB1
 obtain ⟨bb, be⟩ := br
 simp only at hX HB1
 have HQ := Aside0.mk hbr
 have e1 := Aside0.mk hX
 have HWR' := Aside0.mk HWR
 have HVV := Aside0.mk hv
 clear hX hn1 HWR hv hbr
 go_enter Tryz.func20, Tryz.ntmps20
 go_upto_region 1 with (fail)
 obtain ⟨w1, hw1⟩ : ∃ w1, (w.alloc (.cells #[.int .i64 v, .slice Am nm cm] 32)).alloc (.cells #[.int .i64 0, .slice none 0 0] 32) = w1 := ⟨_, rfl⟩
 have XM := Aside0.mk (show w1.heap[w.heap.size]? = some (.cells #[.int .i64 v, .slice Am nm cm] 32) by rw [← hw1]; exact blk_alloc (blk_new _ _) _)
 have XR := Aside0.mk (show w1.heap[w.heap.size + 1]? = some (.cells #[.int .i64 0, .slice none 0 0] 32) by rw [← hw1]; simpa using blk_new (w.alloc (.cells #[.int .i64 v, .slice Am nm cm] 32)) (.cells #[.int .i64 0, .slice none 0 0] 32))
 have B1 := Aside0.mk (show Below w.heap.size w w1 by rw [← hw1]; exact ((Below.refl _ w).alloc (Nat.le_refl _) _).alloc (by simp) _)
 rw [hw1]
 clear hw1
 obtain ⟨gr, hgr⟩ : ∃ g, w.heap.size + 1 = g := ⟨_, rfl⟩
 obtain ⟨gm, hgm⟩ : ∃ g, w.heap.size = g := ⟨_, rfl⟩
 rw [hgr] at XR ⊢
 have HG := Aside0.mk (show w.heap.size ≤ gr ∧ ¬ T gr ∧ ¬ T gm from ⟨by omega, fun hk => by have := HT.out _ hk; omega, fun hk => by have := HT.out _ hk; omega⟩)
 rw [hgm] at XM ⊢
 clear hgr hgm
 refine region_draw (n := 9) (S := fun W => W.heap[gm]? = some (.cells #[.int .i64 v, .slice Am nm cm] 32) ∧ W.heap[gr]? = some (.cells #[.int .i64 0, .slice none 0 0] 32) ∧ Below w.heap.size w W) (ds := [8]) #[false, false, false, false, false, false, false, false, false] (by kernel_rfl) rfl rfl (fun W => W.heap[gm]? = some (.cells #[.int .i64 v, .slice Am nm cm] 32) ∧ W.heap[gr]? = some (.cells #[.int .i64 0, .slice none 0 0] 32) ∧ Below w.heap.size w W) ⟨blk_drew XM.out, blk_drew XR.out, B1.out.drew⟩ (fun W h => h) ?_
 rintro ws ⟨hy1, hy2, hy3⟩
 refine with_tabW rnext1tab rnext1bits (fun HT_ HW_ => ?_)
 have Y1 := Aside0.mk hy1
 have Y2 := Aside0.mk hy2
 have Y3 := Aside0.mk hy3
 clear hy1 hy2 hy3
 refine pure_ (i := 0) (N := some 13) (v := ?_) (a' := ?_) #[true, false, false, false, false, false, false, false, false] rfl rfl (any_of HT_.out (by kernel_rfl)) (fun _ _ _ h => h) (Or.inl ⟨by rfl, ?_⟩) ?_ ?_
 rotate_left
 ·intro w'
  go_simp
  with_reducible rfl
 rotate_left
 ·simp only [Act.put, List.setIfInBounds_toArray, List.set_cons_zero, List.set_cons_succ, i64_w, i32_w]
  rfl
 refine take_ (i := 1) (N := some 14) (v := ?_) (a' := ?_) #[true, true, false, false, false, false, false, false, false] rfl rfl (take_ofW HT_.out HW_.out (by kernel_rfl)) (fun _ _ _ h => h) (Or.inl ⟨by rfl, ?_⟩) ⟨Y1.out, Y2.out, Y3.out⟩ ?_ ?_
 rotate_left
 ·intro w' hW
  obtain ⟨c0, c1, cr⟩ := cells2m hW.1
  go_simp
  with_reducible rfl
 rotate_left
 ·simp only [Act.put, List.setIfInBounds_toArray, List.set_cons_zero, List.set_cons_succ, i64_w, i32_w]
  rfl
 refine pure_ (i := 2) (N := some 15) (v := ?_) (a' := ?_) #[true, true, true, false, false, false, false, false, false] rfl rfl (any_of HT_.out (by kernel_rfl)) (fun _ _ _ h => h) (Or.inl ⟨by rfl, ?_⟩) ?_ ?_
 rotate_left
 ·intro w'
  go_simp
  with_reducible rfl
 rotate_left
 ·simp only [Act.put, List.setIfInBounds_toArray, List.set_cons_zero, List.set_cons_succ, i64_w, i32_w]
  rfl
 refine pure_ (i := 4) (N := some 17) (v := ?_) (a' := ?_) #[true, true, true, false, true, false, false, false, false] rfl rfl (any_of HT_.out (by kernel_rfl)) (fun _ _ _ h => h) (Or.inl ⟨by rfl, ?_⟩) ?_ ?_
 rotate_left
 ·intro w'
  go_simp
  with_reducible rfl
 rotate_left
 ·simp only [Act.put, List.setIfInBounds_toArray, List.set_cons_zero, List.set_cons_succ, i64_w, i32_w]
  rfl
 refine join_ (σ := Value × Value × Value × Value) 1 #[true, true, true, true, true, true, true, true, false] (fun s_ => [(16, s_.1), (18, s_.2.1), (8, s_.2.2.1), (19, s_.2.2.2)]) (fun (s_ : Value × Value × Value × Value) w' => ∃ A_ c_ b_, s_.2.1 = .slice A_ segs.length c_ ∧ s_.2.2.1 = .pointer (some ⟨b_, 0, none⟩) ∧ s_.2.2.2 = .agg #[.int .i64 (wrap64 (v + 1)), .slice A_ segs.length c_] ∧ Aside0 (w'.heap[b_]? = some (.cells #[.int .i64 0, .slice none 0 0] 32)) ∧ Aside0 (w'.heap[gm]? = some (.cells #[.int .i64 v, .slice Am nm cm] 32)) ∧ Aside0 (w'.heap[gr]? = some (.cells #[.int .i64 0, .slice none 0 0] 32)) ∧ Aside0 (Below w.heap.size w w') ∧ Aside0 (Kd.R k65 65 w' w.heap.size (fun _ => True) (.slice A_ segs.length c_) (segs.map cR)) ∧ Aside0 (gr ≠ b_ ∧ w.heap.size ≤ b_)) ?_ ?_
 rotate_left
 ·intro hCont
  refine two_ (i := 3) (j := 7) (Ni := some 16) (Nj := some 8) #[true, true, true, true, true, false, false, false, false] #[true, true, true, false, true, false, false, true, false] rfl rfl rfl rfl (two_of HT_.out (by kernel_rfl)) (by decide) (by decide) (fun K hK => ?_) (fun K hK => ?_)
  ·skip
   refine Kd.R_lit_step k65 (w0 := w) w.heap.size 65 ?hg (N := 16) ?hd (xs := []) (inner := []) (ok := (fun _ => True)) (okp := fun _ => False) ?hr (Reps.none _ _) (fun _ hk => hk.elim) trivial Y3.out Y3.out.size (by simp) ?_; (case hd => rfl); (case hg => rfl); (case hr => first | (go_simp; done) | (go_simp; rfl))
   intro v0 w5 hR hB hg hat
   obtain ⟨b_, hb_, hb2_⟩ := hat
   have HB0 := Aside0.mk (show v0.ownBlock = some b_ ∧ ws.heap.size ≤ b_ from ⟨hb_, by omega⟩)
   have R5 := Aside0.mk hR
   have Z1 := Aside0.mk (blk_below Y1.out ⟨hg.os, hg.tape, hg.output, hg.size, fun k hk => hg.block k hk (by simp)⟩)
   have Z2 := Aside0.mk (blk_below Y2.out ⟨hg.os, hg.tape, hg.output, hg.size, fun k hk => hg.block k hk (by simp)⟩)
   have Z3 := Aside0.mk hB
   clear hR hB hg hb_ hb2_
   refine hK.out _ _ ⟨Z1.out, Z2.out, Z3.out⟩ (fun _ => ?_)
   clear hK K
   refine norm_ (a' := ?_) ?_ ?_
   rotate_left
   ·show Act.put _ (some 16) _ = _
    simp only [Act.put, List.setIfInBounds_toArray, List.set_cons_zero, List.set_cons_succ, i64_w, i32_w]
    rfl
   refine two_ (i := 5) (j := 7) (Ni := some 18) (Nj := some 8) #[true, true, true, true, true, true, false, false, false] #[true, true, true, true, true, false, false, true, false] rfl rfl rfl rfl (two_of HT_.out (by kernel_rfl)) (by decide) (by decide) (fun K hK => ?_) (fun K hK => ?_)
   ·skip
    refine Kd.R_append_rows_step k65 (w0 := w) w.heap.size (by rfl) (.tmp 16) (.tmp 17) 30 65 (.agg #[.int .i64 0, .int .i64 0, .int .u32 0]) 24 rfl Tryz.underlying30 infoSegR rfl (by decide) (by omega) v0 [] (segs.map cR) A segs.length c (fun _ => True) (fun _ => False) rfl rfl R5.out (HC.out _ (Frm.of_new Z3.out)) (fun x cs h => kR_KM x cs h) (fun _ h => h.elim) (fun _ _ => trivial) Z3.out Z3.out.size (by have := HL.out; simp; omega) ?_
    intro v1 w6 hR hB hg hat
    simp only [List.nil_append] at hR
    obtain ⟨A2, c2, rfl⟩ := Kd.R_slice hR
    rw [List.length_map] at hR ⊢
    have R6 := Aside0.mk hR
    have U1 := Aside0.mk ((hg.block gm (lt_of_block Z1.out) (by rw [HB0.out.1]; intro e; injection e with e; have := HB0.out.2; have := lt_of_block Y1.out; omega)).trans Z1.out)
    have U2 := Aside0.mk ((hg.block gr (lt_of_block Z2.out) (by rw [HB0.out.1]; intro e; injection e with e; have := HB0.out.2; have := lt_of_block Y2.out; omega)).trans Z2.out)
    have U3 := Aside0.mk hB
    clear hR hB hg hat
    refine hK.out _ _ ⟨U1.out, U2.out, U3.out⟩ (fun _ => ?_)
    clear hK K
    refine norm_ (a' := ?_) ?_ ?_
    rotate_left
    ·show Act.put _ (some 18) _ = _
     simp only [Act.put, List.setIfInBounds_toArray, List.set_cons_zero, List.set_cons_succ, i64_w, i32_w]
     rfl
    refine pure_ (i := 6) (N := some 19) (v := ?_) (a' := ?_) #[true, true, true, true, true, true, true, false, false] rfl rfl (any_of HT_.out (by kernel_rfl)) (fun _ _ _ h => h) (Or.inl ⟨by rfl, ?_⟩) ?_ ?_
    rotate_left
    ·intro w'
     go_simp
     with_reducible rfl
    rotate_left
    ·simp only [Act.put, List.setIfInBounds_toArray, List.set_cons_zero, List.set_cons_succ, i64_w, i32_w]
     rfl
    refine one_ (i := 7) (N := some 8) #[true, true, true, true, true, true, true, true, false] rfl rfl (one_of HT_.out (by kernel_rfl)) (by decide) (fun K hK => ?_)
    refine box_step (by rfl) (N := 8) (by rfl) (by first | (go_simp; done) | (go_simp; rfl)) ?_
    intro bx hbx wl x7 b7
    have XB := Aside0.mk x7
    have V1 := Aside0.mk (blk_below U1.out b7)
    have V2 := Aside0.mk (blk_below U2.out b7)
    have V3 := Aside0.mk (U3.out.trans (b7.mono U3.out.size))
    have RL := Aside0.mk (Kd.R_below R6.out b7)
    have HNE := Aside0.mk (show gr ≠ bx ∧ w.heap.size ≤ bx from ⟨by have := lt_of_block U2.out; omega, by have := U3.out.size; omega⟩)
    clear x7 b7 hbx
    refine hK.out _ _ ⟨V1.out, V2.out, V3.out⟩ (fun _ => ?_)
    clear hK K
    refine norm_ (a' := ?_) ?_ ?_
    rotate_left
    ·show Act.put _ (some 8) _ = _
     simp only [Act.put, List.setIfInBounds_toArray, List.set_cons_zero, List.set_cons_succ, i64_w, i32_w]
     rfl
    exact hCont (_, _, _, _) _ ⟨A2, c2, bx, rfl, rfl, rfl, XB, V1, V2, V3, RL, HNE⟩
   ·skip
    refine box_step (by rfl) (N := 8) (by rfl) (by first | (go_simp; done) | (go_simp; rfl)) ?_
    intro bx hbx w6 x7 b7
    have HBX7 := Aside0.mk (show w5.heap.size ≤ bx by omega)
    have XB0 := Aside0.mk x7
    have U1 := Aside0.mk (blk_below Z1.out b7)
    have U2 := Aside0.mk (blk_below Z2.out b7)
    have U3 := Aside0.mk (Z3.out.trans (b7.mono Z3.out.size))
    have R6 := Aside0.mk (Kd.R_below R5.out b7)
    have HNE := Aside0.mk (show gr ≠ bx ∧ w.heap.size ≤ bx from ⟨by have := lt_of_block Z2.out; omega, by have := Z3.out.size; omega⟩)
    clear x7 b7 hbx
    refine hK.out _ _ ⟨U1.out, U2.out, U3.out⟩ (fun _ => ?_)
    clear hK K
    refine norm_ (a' := ?_) ?_ ?_
    rotate_left
    ·show Act.put _ (some 8) _ = _
     simp only [Act.put, List.setIfInBounds_toArray, List.set_cons_zero, List.set_cons_succ, i64_w, i32_w]
     rfl
    refine one_ (i := 5) (N := some 18) #[true, true, true, true, true, true, false, true, false] rfl rfl (one_of HT_.out (by kernel_rfl)) (by decide) (fun K hK => ?_)
    refine Kd.R_append_rows_step k65 (w0 := w) w.heap.size (by rfl) (.tmp 16) (.tmp 17) 30 65 (.agg #[.int .i64 0, .int .i64 0, .int .u32 0]) 24 rfl Tryz.underlying30 infoSegR rfl (by decide) (by omega) v0 [] (segs.map cR) A segs.length c (fun _ => True) (fun _ => False) rfl rfl R6.out (HC.out _ (Frm.of_new U3.out)) (fun x cs h => kR_KM x cs h) (fun _ h => h.elim) (fun _ _ => trivial) U3.out U3.out.size (by have := HL.out; simp; omega) ?_
    intro v1 wl hR hB hg hat
    simp only [List.nil_append] at hR
    obtain ⟨A2, c2, rfl⟩ := Kd.R_slice hR
    rw [List.length_map] at hR ⊢
    have RL := Aside0.mk hR
    have V1 := Aside0.mk ((hg.block gm (lt_of_block U1.out) (by rw [HB0.out.1]; intro e; injection e with e; have := HB0.out.2; have := lt_of_block Y1.out; omega)).trans U1.out)
    have V2 := Aside0.mk ((hg.block gr (lt_of_block U2.out) (by rw [HB0.out.1]; intro e; injection e with e; have := HB0.out.2; have := lt_of_block Y2.out; omega)).trans U2.out)
    have XB := Aside0.mk ((hg.block bx (lt_of_block XB0.out) (by rw [HB0.out.1]; intro e; injection e with e; have := HBX7.out; have := Kd.R_lt R5.out _ HB0.out.1; omega)).trans XB0.out)
    have V3 := Aside0.mk hB
    clear hR hB hg hat
    refine hK.out _ _ ⟨V1.out, V2.out, V3.out⟩ (fun _ => ?_)
    clear hK K
    refine norm_ (a' := ?_) ?_ ?_
    rotate_left
    ·show Act.put _ (some 18) _ = _
     simp only [Act.put, List.setIfInBounds_toArray, List.set_cons_zero, List.set_cons_succ, i64_w, i32_w]
     rfl
    refine pure_ (i := 6) (N := some 19) (v := ?_) (a' := ?_) #[true, true, true, true, true, true, true, true, false] rfl rfl (any_of HT_.out (by kernel_rfl)) (fun _ _ _ h => h) (Or.inl ⟨by rfl, ?_⟩) ?_ ?_
    rotate_left
    ·intro w'
     go_simp
     with_reducible rfl
    rotate_left
    ·simp only [Act.put, List.setIfInBounds_toArray, List.set_cons_zero, List.set_cons_succ, i64_w, i32_w]
     rfl
    exact hCont (_, _, _, _) _ ⟨A2, c2, bx, rfl, rfl, rfl, XB, V1, V2, V3, RL, HNE⟩
  ·skip
   refine box_step (by rfl) (N := 8) (by rfl) (by first | (go_simp; done) | (go_simp; rfl)) ?_
   intro bx hbx w5 x7 b7
   have XB0 := Aside0.mk x7
   have Z1 := Aside0.mk (blk_below Y1.out b7)
   have Z2 := Aside0.mk (blk_below Y2.out b7)
   have Z3 := Aside0.mk (Y3.out.trans (b7.mono Y3.out.size))
   have HNE := Aside0.mk (show gr ≠ bx ∧ w.heap.size ≤ bx from ⟨by have := lt_of_block Y2.out; omega, by have := Y3.out.size; omega⟩)
   clear x7 b7 hbx
   refine hK.out _ _ ⟨Z1.out, Z2.out, Z3.out⟩ (fun _ => ?_)
   clear hK K
   refine norm_ (a' := ?_) ?_ ?_
   rotate_left
   ·show Act.put _ (some 8) _ = _
    simp only [Act.put, List.setIfInBounds_toArray, List.set_cons_zero, List.set_cons_succ, i64_w, i32_w]
    rfl
   refine one_ (i := 3) (N := some 16) #[true, true, true, true, true, false, false, true, false] rfl rfl (one_of HT_.out (by kernel_rfl)) (by decide) (fun K hK => ?_)
   refine Kd.R_lit_step k65 (w0 := w) w.heap.size 65 ?hg (N := 16) ?hd (xs := []) (inner := []) (ok := (fun _ => True)) (okp := fun _ => False) ?hr (Reps.none _ _) (fun _ hk => hk.elim) trivial Z3.out Z3.out.size (by simp) ?_; (case hd => rfl); (case hg => rfl); (case hr => first | (go_simp; done) | (go_simp; rfl))
   intro v0 w6 hR hB hg hat
   obtain ⟨b_, hb_, hb2_⟩ := hat
   have HB0 := Aside0.mk (show v0.ownBlock = some b_ ∧ w5.heap.size ≤ b_ from ⟨hb_, by omega⟩)
   have R6 := Aside0.mk hR
   have U1 := Aside0.mk (blk_below Z1.out ⟨hg.os, hg.tape, hg.output, hg.size, fun k hk => hg.block k hk (by simp)⟩)
   have U2 := Aside0.mk (blk_below Z2.out ⟨hg.os, hg.tape, hg.output, hg.size, fun k hk => hg.block k hk (by simp)⟩)
   have U3 := Aside0.mk hB
   have HBX7 := Aside0.mk (show bx < b_ by have := lt_of_block XB0.out; omega)
   replace XB0 := Aside0.mk (blk_below XB0.out ⟨hg.os, hg.tape, hg.output, hg.size, fun k hk => hg.block k hk (by simp)⟩)
   clear hR hB hg hb_ hb2_
   refine hK.out _ _ ⟨U1.out, U2.out, U3.out⟩ (fun _ => ?_)
   clear hK K
   refine norm_ (a' := ?_) ?_ ?_
   rotate_left
   ·show Act.put _ (some 16) _ = _
    simp only [Act.put, List.setIfInBounds_toArray, List.set_cons_zero, List.set_cons_succ, i64_w, i32_w]
    rfl
   refine one_ (i := 5) (N := some 18) #[true, true, true, true, true, true, false, true, false] rfl rfl (one_of HT_.out (by kernel_rfl)) (by decide) (fun K hK => ?_)
   refine Kd.R_append_rows_step k65 (w0 := w) w.heap.size (by rfl) (.tmp 16) (.tmp 17) 30 65 (.agg #[.int .i64 0, .int .i64 0, .int .u32 0]) 24 rfl Tryz.underlying30 infoSegR rfl (by decide) (by omega) v0 [] (segs.map cR) A segs.length c (fun _ => True) (fun _ => False) rfl rfl R6.out (HC.out _ (Frm.of_new U3.out)) (fun x cs h => kR_KM x cs h) (fun _ h => h.elim) (fun _ _ => trivial) U3.out U3.out.size (by have := HL.out; simp; omega) ?_
   intro v1 wl hR hB hg hat
   simp only [List.nil_append] at hR
   obtain ⟨A2, c2, rfl⟩ := Kd.R_slice hR
   rw [List.length_map] at hR ⊢
   have RL := Aside0.mk hR
   have V1 := Aside0.mk ((hg.block gm (lt_of_block U1.out) (by rw [HB0.out.1]; intro e; injection e with e; have := HB0.out.2; have := lt_of_block Z1.out; omega)).trans U1.out)
   have V2 := Aside0.mk ((hg.block gr (lt_of_block U2.out) (by rw [HB0.out.1]; intro e; injection e with e; have := HB0.out.2; have := lt_of_block Z2.out; omega)).trans U2.out)
   have XB := Aside0.mk ((hg.block bx (lt_of_block XB0.out) (by rw [HB0.out.1]; intro e; injection e with e; have := HBX7.out; omega)).trans XB0.out)
   have V3 := Aside0.mk hB
   clear hR hB hg hat
   refine hK.out _ _ ⟨V1.out, V2.out, V3.out⟩ (fun _ => ?_)
   clear hK K
   refine norm_ (a' := ?_) ?_ ?_
   rotate_left
   ·show Act.put _ (some 18) _ = _
    simp only [Act.put, List.setIfInBounds_toArray, List.set_cons_zero, List.set_cons_succ, i64_w, i32_w]
    rfl
   refine pure_ (i := 6) (N := some 19) (v := ?_) (a' := ?_) #[true, true, true, true, true, true, true, true, false] rfl rfl (any_of HT_.out (by kernel_rfl)) (fun _ _ _ h => h) (Or.inl ⟨by rfl, ?_⟩) ?_ ?_
   rotate_left
   ·intro w'
    go_simp
    with_reducible rfl
   rotate_left
   ·simp only [Act.put, List.setIfInBounds_toArray, List.set_cons_zero, List.set_cons_succ, i64_w, i32_w]
    rfl
   exact hCont (_, _, _, _) _ ⟨A2, c2, bx, rfl, rfl, rfl, XB, V1, V2, V3, RL, HNE⟩
 rintro ⟨v16, v18, v8, v19⟩ wl ⟨A2, c2, bx, hv1, hv2, hv3, XB, XML, XRL, BL, RL, HNE0⟩
 simp only at hv1 hv2 hv3
 subst hv1 hv2 hv3
 have HNE := Aside0.mk HNE0.out.1
 have HBX := Aside0.mk HNE0.out.2
 refine norm_ (a' := ?_) ?_ ?_
 rotate_left
 ·simp only [putAll, List.foldl_cons, List.foldl_nil, Act.put, List.setIfInBounds_toArray, List.set_cons_zero, List.set_cons_succ]
  rfl
 refine last_ (i := 8) (N := none) #[true, true, true, true, true, true, true, true, true] rfl rfl (one_of HT_.out (by kernel_rfl)) (by decide) (fun K hK => ?_)
 obtain ⟨e0, e1', er⟩ := cells2m XB.out
 refine skip_ (w1 := ?_) (by rfl) rfl ?_ ?_
 rotate_left
 ·go_simp
  rfl
 refine hK.out _ _ ?_
 clear hK K
 refine done_ (done_of HT_.out (by kernel_rfl)) ?_
 clear e0 e1' er XML HNE0
 rw [HN1.out]
 have HX3 := Aside0.mk (show ((wl.setCell ⟨bx, 0, none⟩ (.int .i64 n1)).setCell ⟨bx, 1, none⟩ (.slice A2 segs.length c2)).heap[bx]? = some (.cells #[.int .i64 n1, .slice A2 segs.length c2] 32) from two_put XB.out _ _)
 have XR3 := Aside0.mk (show ((wl.setCell ⟨bx, 0, none⟩ (.int .i64 n1)).setCell ⟨bx, 1, none⟩ (.slice A2 segs.length c2)).heap[gr]? = some (.cells #[.int .i64 0, .slice none 0 0] 32) by rw [Below.heap_setCell _ _ _ _ HNE.out, Below.heap_setCell _ _ _ _ HNE.out]; exact XRL.out)
 have B3 := Aside0.mk (show Below w.heap.size w ((wl.setCell ⟨bx, 0, none⟩ (.int .i64 n1)).setCell ⟨bx, 1, none⟩ (.slice A2 segs.length c2)) from (BL.out.setCell (p := ⟨bx, 0, none⟩) HBX.out _).setCell (p := ⟨bx, 1, none⟩) HBX.out _)
 have R3 := Aside0.mk (show Kd.R k65 65 ((wl.setCell ⟨bx, 0, none⟩ (.int .i64 n1)).setCell ⟨bx, 1, none⟩ (.slice A2 segs.length c2)) w.heap.size (fun _ => True) (.slice A2 segs.length c2) (segs.map cR) from Kd.R_mono (Kd.R_step (Kd.R_types RL.out XB.out (by decide)) (fun k hk _ => by rw [Below.heap_setCell _ _ _ _ hk.2, Below.heap_setCell _ _ _ _ hk.2])) (fun _ _ => trivial))
 have HBT := Aside0.mk (show ¬ T bx from fun hk => by have := HT.out _ hk; have := HBX.out; omega)
 generalize ((wl.setCell ⟨bx, 0, none⟩ (.int .i64 n1)).setCell ⟨bx, 1, none⟩ (.slice A2 segs.length c2)) = w3 at HX3 XR3 B3 R3 ⊢
 clear XB XRL BL RL
 have S3 := Aside0.mk (DSt.refl (H.out.below B3.out))
 have N3 := Aside0.mk (lt_of_block XR3.out)
 obtain ⟨d0, d1, dr⟩ := cells2m HX3.out
 go_wp2_with fail
 refine (rBytes_calls n1 segs HL.out HU.out A2 segs.length c2 w3 _ _ R3.out bb be HQ.out).mono ?_
 rintro e w4 ⟨rfl, b4⟩
 have S4 := Aside0.mk (S3.out.below b4)
 have HX4 := Aside0.mk (blk_below HX3.out b4)
 have XR4 := Aside0.mk (blk_below XR3.out b4)
 have R4 := Aside0.mk (Kd.R_below R3.out b4)
 clear b4 S3 d0 d1 dr
 by_cases he : be = 0
 case neg =>
  rw [if_pos he] at e1
  have heq : (be == 0) = false := beq_eq_false_iff_ne.2 he
  have hb1 := HB1.out he
  subst hb1
  obtain ⟨g0, g1, gx⟩ := cells2m XR4.out
  go_wp2_with fail
  exact dan_end (fn := Tryz.f20) (p := 6) (q := 7) rfl (S4.out.back B3.out) HG.out.1 HG.out.2.1 XR4.out 0 1 (l := []) (Kd.R_nil _ _ _ _ _) rfl rfl e1.out rfl rfl
 subst he
 rw [if_neg (by simp)] at e1
 clear HB1
 obtain ⟨d0, d1, dr⟩ := cells2m HX4.out
 go_wp2_with fail
 refine (rName_calls n1 HWR'.out _).mono ?_
 rintro e w5 ⟨rfl, b5⟩
 have S5 := Aside0.mk (S4.out.below b5)
 have HX5 := Aside0.mk (blk_below HX4.out b5)
 have XR5 := Aside0.mk (blk_below XR4.out b5)
 have R5 := Aside0.mk (Kd.R_below R4.out b5)
 clear b5 S4 d0 d1 dr
 go_wp2_with fail
 refine (rf_PutNew w5 _ r st S5.out.at_ HGD.out.len' HGD.out.nd (mnf n1) bb).mono ?_
 rintro e w6 ⟨rfl, h6, f6⟩
 obtain ⟨T6, S6⟩ : ∃ T6, Aside0 (DSt w3 T r (st.putNew (mnf n1) bb).1 w6 T6) := ⟨_, ⟨S5.out.step h6 f6⟩⟩
 have HGP := Aside0.mk (HGD.out.putNew (mnf n1) bb)
 have N6 := Aside0.mk (S6.out.not N3.out HG.out.2.1)
 have HX6 := Aside0.mk (S6.out.keeps HX3.out HBT.out)
 have XR6 := Aside0.mk (S6.out.keeps XR3.out HG.out.2.1)
 have R6 := Aside0.mk (R_dst R3.out S6.out HT.out)
 have L3 := Aside0.mk (lt_of_block HX3.out)
 clear h6 f6 S5 HX5 XR5 R5 HX4 XR4 R4
 generalize st.putNew (mnf n1) bb = pn at e1 S6 HGP ⊢
 obtain ⟨p1, p2⟩ := pn
 simp only at e1 S6 HGP ⊢
 by_cases hp : p2 = 0
 case pos =>
  subst hp
  rw [if_pos rfl] at e1
  obtain ⟨d0, d1, dr⟩ := cells2m HX6.out
  obtain ⟨g0, g1, gx⟩ := cells2m XR6.out
  go_wp2_with fail
  exact dan_end (fn := Tryz.f20) (p := 6) (q := 7) rfl (S6.out.back B3.out) HG.out.1 N6.out XR6.out n1 0 R6.out rfl rfl e1.out rfl rfl
 rw [if_neg hp] at e1
 have hpq : (p2 == 0) = false := beq_eq_false_iff_ne.2 hp
 obtain ⟨d0, d1, dr⟩ := cells2m HX6.out
 go_wp2_with fail
 refine (rName_calls n1 HWR'.out _).mono ?_
 rintro e w66 ⟨rfl, b66⟩
 have S66 := Aside0.mk (S6.out.below b66)
 clear b66 d0 d1 dr
 go_wp2_with fail
 refine (dGet w66 _ r p1 S66.out.at_ HGP.out.1 HGP.out.2 (mnf n1)).mono ?_
 rintro e w7 ⟨rfl, h7, f7⟩
 obtain ⟨T7, S7⟩ : ∃ T7, Aside0 (DSt w3 T r (p1.get (mnf n1)).1 w7 T7) := ⟨_, ⟨S66.out.step h7 f7⟩⟩
 have N7 := Aside0.mk (S7.out.not N3.out HG.out.2.1)
 have HX7 := Aside0.mk (S7.out.keeps HX3.out HBT.out)
 have XR7 := Aside0.mk (S7.out.keeps XR3.out HG.out.2.1)
 have R7 := Aside0.mk (R_dst R3.out S7.out HT.out)
 clear h7 f7 S6 S66 HX6 XR6 R6 N6
 generalize p1.get (mnf n1) = gt at e1 S7 ⊢
 obtain ⟨g1, g2, g3⟩ := gt
 simp only at e1 S7 ⊢
 obtain ⟨d0, d1, dr⟩ := cells2m HX7.out
 obtain ⟨y0, y1, yr⟩ := cells2m XR7.out
 by_cases hg3 : g3 = 0
 ·subst hg3
  by_cases hgb : g2 = bb
  ·subst hgb
   rw [if_pos ⟨rfl, rfl⟩] at e1
   have heq : (g2.toList == g2.toList) = true := beq_self_eq_true _
   go_wp2_with fail
   exact dan_end (fn := Tryz.f20) (p := 6) (q := 7) rfl (S7.out.back B3.out) HG.out.1 N7.out XR7.out n1 0 R7.out rfl rfl e1.out rfl rfl
  ·rw [if_neg (fun hh => hgb hh.2)] at e1
   have heq : (g2.toList == bb.toList) = false := beq_eq_false_iff_ne.2 (fun e => hgb (WideShapes.bytes_inj (by rw [Lib.toList_data, Lib.toList_data] at e; exact e)))
   go_wp2_with fail
   exact dan_end (fn := Tryz.f20) (p := 6) (q := 7) rfl (S7.out.back B3.out) HG.out.1 N7.out XR7.out 0 p2 (l := []) (Kd.R_nil _ _ _ _ _) rfl rfl e1.out rfl rfl
 ·rw [if_neg (fun hh => hg3 hh.1)] at e1
  have heq : (g3 == 0) = false := beq_eq_false_iff_ne.2 hg3
  go_wp2_with fail
  exact dan_end (fn := Tryz.f20) (p := 6) (q := 7) rfl (S7.out.back B3.out) HG.out.1 N7.out XR7.out 0 p2 (l := []) (Kd.R_nil _ _ _ _ _) rfl rfl e1.out rfl rfl
theorem rdT_bad2 {b : Bs} (h : (readR b).1 = none) : ∃ e, rdT b = (0, [], e) ∧ e ≠ 0 := by
 cases hr : readR b with
 | mk o e =>
  rw [hr] at h
  simp only at h
  subst h
  refine ⟨e, ?_, readR_bad hr⟩
  unfold rdT
  rw [hr]
theorem rdT_good {b : Bs} {u : Nat} {l : List Sn} (h : (readR b).1 = some (u, l)) : rdT b = ((u : Int), (l.map mkSg).map cR, 0) := by
 cases hr : readR b with
 | mk o e =>
  rw [hr] at h
  simp only at h
  subst h
  obtain ⟨_, _, _, h0⟩ := readR_of hr
  subst h0
  exact rdT_some hr
theorem drop_snoc {ns : List ByteArray} {k : Nat} (h : k < ns.length) : (ns.drop k).reverse = (ns.drop (k + 1)).reverse ++ [ns[k]] := by
 rw [List.drop_eq_getElem_cons h, List.reverse_cons]
set_option maxHeartbeats 12800000 in
set_option maxRecDepth 100000 in
theorem ref_Latest.calls (w : World) (T : Nat → Prop) (r : Nat) (st : Rem) (h : RfR w T r (refL st.m) st.s st.n) (hgd : GoodR st) (hk : ∀ k ∈ names st.m, k.size ≤ 1000) (hv : ∀ k b, look st.m k = some b → b.size ≤ 3000) :
  Calls Tryz.prog 18 #[.pointer (some ⟨r, 0, none⟩)] w (DanPost w T r (pubLatest st)) := by
 have H := Aside0.mk h
 have HT := Aside0.mk h.old
 have HGD := Aside0.mk hgd
 have HK := Aside0.mk hk
 have HV := Aside0.mk hv
 clear h hgd hk hv
 obtain ⟨X, hX⟩ : ∃ X, pubLatest st = X := ⟨_, rfl⟩
 rw [hX]
 unfold pubLatest at hX
 have e1 := Aside0.mk hX
 clear hX
 go_enter Tryz.func18, Tryz.ntmps18
 go_upto_region 1 with (fail)
 obtain ⟨w1, hw1⟩ : ∃ w1, w.alloc (.cells #[.int .i64 0, .slice none 0 0] 32) = w1 := ⟨_, rfl⟩
 have XR := Aside0.mk (show w1.heap[w.heap.size]? = some (.cells #[.int .i64 0, .slice none 0 0] 32) by rw [← hw1]; exact blk_new _ _)
 have B1 := Aside0.mk (show Below w.heap.size w w1 by rw [← hw1]; exact (Below.refl _ w).alloc (Nat.le_refl _) _)
 rw [hw1]
 clear hw1
 obtain ⟨gr, hgr⟩ : ∃ g, w.heap.size = g := ⟨_, rfl⟩
 rw [hgr] at XR ⊢
 have HG := Aside0.mk (show w.heap.size ≤ gr ∧ ¬ T gr from ⟨by omega, fun hk => by have := HT.out _ hk; omega⟩)
 clear hgr
 have S1 := Aside0.mk (DSt.refl (H.out.below B1.out))
 have NL := Aside0.mk (lt_of_block XR.out)
 go_wp2_with fail
 refine (rf_List w1 T r st S1.out.at_ HGD.out.len' HGD.out.nd).mono ?_
 rintro e w2 ⟨v2, rfl, hR, h2, f2⟩
 have S2 := Aside0.mk (show DSt w1 T r st.next w2 T from S1.out.still h2 f2)
 have X2 := Aside0.mk (S2.out.keeps XR.out HG.out.2)
 have HNS := Aside0.mk (show st.list.1.length ≤ 1000000 ∧ ∀ k ∈ st.list.1, k.size ≤ 1000 by
  unfold Rem.list
  split
  ·exact ⟨Nat.zero_le _, fun k hk => by cases hk⟩
  ·refine ⟨?_, HK.out⟩
   unfold names
   rw [sorted_length, List.length_map]
   have := HGD.out.len
   omega)
 generalize st.list = ls at e1 HNS hR ⊢
 obtain ⟨ns, le⟩ := ls
 simp only at e1 HNS hR ⊢
 obtain ⟨An, cn, rfl⟩ := Kd.R_slice hR
 have RN := Aside0.mk (Kd.R_mono (ok' := fun k => ¬ T k) (Kd.R_bound hR) (fun k hk hn => by have := HT.out k hn; have := hk.2.1; have := B1.out.size; omega))
 clear hR h2 f2
 by_cases he : le = 0
 case neg =>
  rw [if_pos he] at e1
  have heq : (le == 0) = false := beq_eq_false_iff_ne.2 he
  obtain ⟨g0, g1, gx⟩ := cells2m X2.out
  go_wp2_with fail
  exact dan_end (fn := Tryz.f18) (p := 2) (q := 3) rfl (S2.out.back B1.out) HG.out.1 HG.out.2 X2.out 0 le (l := []) (Kd.R_nil _ _ _ _ _) rfl rfl e1.out rfl rfl
 subst he
 rw [if_neg (by simp)] at e1
 have hnl := HNS.out.1
 have hsub : IntKind.i64.wrap ((ns.length : Int) - 1) = (ns.length : Int) - 1 := IntWalk.i64_in _ (by omega)
 go_wp2_with fail
 go_loopw [6] (fun v6 wr => ∃ (m : Nat) (s : Rem), v6 = .int .i64 ((m : Int) - 1) ∧ m ≤ ns.length ∧ Aside0 (latRun st.next ((ns.drop m).reverse) = (s, none) ∧ s.m = st.m) ∧ Aside0 (DSt w1 T r s wr T) ∧ Aside0 (Kd.R Kd.string 9 wr w1.heap.size (fun k => ¬ T k) (.slice An ns.length cn) ns)) (fun v6 _ => (intOf v6 + 1).toNat)
 case atStart => exact ⟨ns.length, st.next, rfl, Nat.le_refl _, ⟨by rw [List.drop_length]; rfl, rfl⟩, S2, RN⟩
 case round =>
  obtain ⟨m, s, hv6, hm, HRUN, S3, RN3⟩ := hrel
  rcases m with _ | k
  ·obtain rfl := hv6
   have e2 := Aside0.mk (show latEnd (s, none) = X by rw [← e1.out, ← HRUN.out.1]; rfl)
   have X3 := Aside0.mk (S3.out.keeps XR.out HG.out.2)
   obtain ⟨g0, g1, gx⟩ := cells2m X3.out
   go_wp2_with fail
   exact dan_end (fn := Tryz.f18) (p := 2) (q := 3) rfl (S3.out.back B1.out) HG.out.1 HG.out.2 X3.out 0 5 (l := []) (Kd.R_nil _ _ _ _ _) rfl rfl e2.out rfl rfl
  ·rw [show ((k + 1 : Nat) : Int) - 1 = (k : Int) by omega] at hv6
   obtain rfl := hv6
   have hkl : k < ns.length := by omega
   have d1 : decide (0 ≤ (k : Int)) = true := decide_eq_true (by omega)
   have i0 : 0 ≤ (k : Int) := by omega
   have i1 : (k : Int) < (ns.length : Int) := by omega
   have hks : IntKind.i64.wrap ((k : Int) - 1) = (k : Int) - 1 := IntWalk.i64_in _ (by omega)
   obtain ⟨adn, rfl, n0⟩ := C_strAt (Kd.R_reads' RN3.out).2.2 hkl
   have HNK := Aside0.mk (fun (W : World) (h : Kd.R Kd.string 9 W w1.heap.size (fun k => ¬ T k) (.slice (some adn) ns.length cn) ns) => by
    obtain ⟨ad', e, x⟩ := C_strAt (Kd.R_reads' h).2.2 hkl
    cases e
    exact x : ∀ W, Kd.R Kd.string 9 W w1.heap.size (fun k => ¬ T k) (.slice (some adn) ns.length cn) ns → W.cell? (adn.add k) = some (.string ns[k]))
   have HSZ := Aside0.mk (HNS.out.2 _ (List.getElem_mem hkl))
   have RUN := Aside0.mk (show latRun st.next ((ns.drop k).reverse) = latStep s ns[k] by rw [drop_snoc hkl]; exact latRun_snoc HRUN.out.1 _)
   have REND := Aside0.mk (fun (p : Rem) (q : (Int × List SgI) × Int) (h : latRun st.next ((ns.drop k).reverse) = (p, some q)) => show (p, q.1, q.2) = X by
    rw [← e1.out]
    have : ns.reverse = (ns.drop k).reverse ++ (ns.take k).reverse := by rw [← List.reverse_append, List.take_append_drop]
    rw [this, latRun_append, h]
    rfl)
   have HSM := Aside0.mk HRUN.out.2
   have HVL := Aside0.mk (show (s.get ns[k]).1.m = st.m ∧ (s.get ns[k]).2.1.size ≤ 3000 from ⟨by rw [get_m]; exact HRUN.out.2, by
    unfold Rem.get
    split
    ·exact Nat.zero_le _
    ·cases hl : look s.m ns[k] with
     | none => exact Nat.zero_le _
     | some b => exact HV.out _ b (by rw [← HRUN.out.2]; exact hl)⟩)
   clear HRUN
   generalize ns[k] = nm at n0 HNK HSZ RUN HVL
   obtain ⟨⟨vv, is⟩, hvO, hev⟩ := ev_rVersion nm HSZ.out
   obtain ⟨q1, hq1⟩ := Ev.rounds hev
   have HQ1 := Aside0.mk hq1
   clear hev hq1
   go_wp2_with fail
   refine (thwartref12_Version.calls q1 nm vv is wr HQ1.out).mono ?_
   rintro e w3 ⟨rfl, b3⟩
   have S4 := Aside0.mk (S3.out.below b3)
   have RN4 := Aside0.mk (Kd.R_below RN3.out b3)
   clear b3 S3 RN3 n0
   rcases verF_of hvO with ⟨v, hv, hvv⟩ | ⟨hv, hvv⟩
   case inr =>
    cases hvv
    have HV' := Aside0.mk hv
    clear hv hvO
    go_wp2_with fail
    go_roundw
    case rel => exact ⟨k, s, rfl, by omega, ⟨by rw [RUN.out]; unfold latStep; rw [HV'.out], HSM.out⟩, S4, RN4⟩
    case measure => first | (simp [intOf]; done) | (simp [intOf]; omega)
   case inl =>
    cases hvv
    have RUN2 := Aside0.mk (show latRun st.next ((ns.drop k).reverse) = (if (s.get nm).2.2 = 9 then ((s.get nm).1, some (((0 : Int), ([] : List SgI)), (9 : Int)))
  else if (s.get nm).2.2 = 0 then
   match (readR (L (s.get nm).2.1)).1 with
   | some (u, l) => if u = v then ((s.get nm).1, some (((v : Int), l.map mkSg), 0)) else ((s.get nm).1, none)
   | none => ((s.get nm).1, none)
  else ((s.get nm).1, none)) by rw [RUN.out]; unfold latStep; rw [hv]; try rfl)
    clear hv hvO RUN
    have n0 := HNK.out w3 RN4.out
    go_wp2_with fail
    refine (dGet_still w3 T r s S4.out.at_ (by rw [HSM.out]; exact HGD.out.len') (by rw [HSM.out]; exact HGD.out.nd) nm).mono ?_
    rintro e w4 ⟨rfl, h4, f4⟩
    have S5 := Aside0.mk (S4.out.still h4 f4)
    have RN5 := Aside0.mk (Kd.R_step RN4.out (fun k hk hlt => f4.block k hlt hk))
    clear h4 f4 S4 RN4 n0
    generalize s.get nm = gt at RUN2 HVL S5 ⊢
    obtain ⟨t1, t2, t3⟩ := gt
    simp only at RUN2 HVL S5 ⊢
    by_cases h9 : t3 = 9
    case pos =>
     subst h9
     rw [if_pos rfl] at RUN2
     have e2 := Aside0.mk (REND.out _ _ RUN2.out)
     have X5 := Aside0.mk (S5.out.keeps XR.out HG.out.2)
     obtain ⟨g0, g1, gx⟩ := cells2m X5.out
     go_wp2_with fail
     exact dan_end (fn := Tryz.f18) (p := 2) (q := 3) rfl (S5.out.back B1.out) HG.out.1 HG.out.2 X5.out 0 9 (l := []) (Kd.R_nil _ _ _ _ _) rfl rfl e2.out rfl rfl
    rw [if_neg h9] at RUN2
    have heq9 : (t3 == 9) = false := beq_eq_false_iff_ne.2 h9
    cases hrd : (readR (L t2)).1 with
    | none =>
     obtain ⟨er, hT2, her⟩ := rdT_bad2 hrd
     have her' : (er == 0) = false := beq_eq_false_iff_ne.2 her
     have RUN3 := Aside0.mk (show latRun st.next ((ns.drop k).reverse) = (t1, none) by rw [RUN2.out, hrd]; split <;> rfl)
     have HRD := Aside0.mk hT2
     clear hrd RUN2 hT2
     go_wp2_with fail
     refine (rRead_calls t2 HVL.out.2 0 [] er (by rw [HRD.out]; rfl) w4).mono ?_
     rintro e w5 ⟨A5, c5, rfl, hR5, b5⟩
     have S6 := Aside0.mk (S5.out.below b5)
     have RN6 := Aside0.mk (Kd.R_below RN5.out b5)
     clear b5 hR5 S5 RN5
     simp only [List.length_nil]
     by_cases h0 : t3 = 0
     ·subst h0
      go_wp2_with fail
      go_roundw
      case rel => exact ⟨k, t1, rfl, by omega, ⟨RUN3.out, HVL.out.1⟩, ⟨S6.out.below (below_alloc (Below.refl _ _) _)⟩, ⟨Kd.R_alloc RN6.out _⟩⟩
      case measure => first | (simp [intOf]; done) | (simp [intOf]; omega)
     ·have heq0 : (t3 == 0) = false := beq_eq_false_iff_ne.2 h0
      go_wp2_with fail
      go_roundw
      case rel => exact ⟨k, t1, rfl, by omega, ⟨RUN3.out, HVL.out.1⟩, ⟨S6.out.below (below_alloc (Below.refl _ _) _)⟩, ⟨Kd.R_alloc RN6.out _⟩⟩
      case measure => first | (simp [intOf]; done) | (simp [intOf]; omega)
    | some ul =>
     obtain ⟨u, lu⟩ := ul
     have hT2 := rdT_good hrd
     obtain ⟨ls, hls⟩ : ∃ ls, lu.map mkSg = ls := ⟨_, rfl⟩
     rw [hls] at hT2
     have RUN3 := Aside0.mk (show latRun st.next ((ns.drop k).reverse) = (if t3 = 0 then (if u = v then (t1, some (((v : Int), ls), (0 : Int))) else (t1, none)) else (t1, none)) by rw [RUN2.out, hrd]; simp only [hls])
     have HRD := Aside0.mk hT2
     clear hrd RUN2 hT2 hls
     go_wp2_with fail
     refine (rRead_calls t2 HVL.out.2 (u : Int) ls 0 HRD.out w4).mono ?_
     rintro e w5 ⟨A5, c5, rfl, hR5, b5⟩
     have S6 := Aside0.mk (S5.out.below b5)
     have RN6 := Aside0.mk (Kd.R_below RN5.out b5)
     have R6 := Aside0.mk (Kd.R_mono (ok' := fun k => ¬ T k) (Kd.R_lower (Kd.R_bound hR5) (base' := w.heap.size) (by have := S5.out.frm.size; have := B1.out.size; omega)) (fun k hk hn => by have := HT.out k hn; have := hk.2.1; have := S5.out.frm.size; have := B1.out.size; omega))
     clear b5 hR5 S5 RN5
     by_cases h0 : t3 = 0
     ·subst h0
      rw [if_pos rfl] at RUN3
      by_cases huv : u = v
      ·subst huv
       rw [if_pos rfl] at RUN3
       have e2 := Aside0.mk (REND.out _ _ RUN3.out)
       have hq : ((u : Int) == (u : Int)) = true := beq_self_eq_true _
       have bb := newTwo w5 (.cells #[.int .i64 (u : Nat), .slice A5 ls.length c5] 32)
       have X6 := Aside0.mk (S6.out.keeps XR.out HG.out.2)
       have X7 := Aside0.mk (blk_below X6.out bb)
       have S7 := Aside0.mk (S6.out.below bb)
       have R7 := Aside0.mk (Kd.R_below R6.out bb)
       obtain ⟨g0, g1, gx⟩ := cells2m X7.out
       obtain ⟨q0, q1', qx⟩ := cells2m (blk_new w5 (.cells #[.int .i64 (u : Nat), .slice A5 ls.length c5] 32))
       have n2 : ¬ gr = w5.heap.size := by have := lt_of_block X6.out; omega
       have n2' : ¬ w5.heap.size = gr := fun e => n2 e.symm
       clear bb
       go_wp2_with fail
       exact dan_end (fn := Tryz.f18) (p := 2) (q := 3) rfl (S7.out.back B1.out) HG.out.1 HG.out.2 X7.out (u : Int) 0 R7.out rfl rfl e2.out rfl rfl
      ·rw [if_neg huv] at RUN3
       have hq : ((u : Int) == (v : Int)) = false := beq_eq_false_iff_ne.2 (by omega)
       obtain ⟨q0, q1', qx⟩ := cells2m (blk_new w5 (.cells #[.int .i64 (u : Nat), .slice A5 ls.length c5] 32))
       go_wp2_with fail
       go_roundw
       case rel => exact ⟨k, t1, rfl, by omega, ⟨RUN3.out, HVL.out.1⟩, ⟨S6.out.below (below_alloc (Below.refl _ _) _)⟩, ⟨Kd.R_alloc RN6.out _⟩⟩
       case measure => first | (simp [intOf]; done) | (simp [intOf]; omega)
     ·rw [if_neg h0] at RUN3
      have heq0 : (t3 == 0) = false := beq_eq_false_iff_ne.2 h0
      go_wp2_with fail
      go_roundw
      case rel => exact ⟨k, t1, rfl, by omega, ⟨RUN3.out, HVL.out.1⟩, ⟨S6.out.below (below_alloc (Below.refl _ _) _)⟩, ⟨Kd.R_alloc RN6.out _⟩⟩
      case measure => first | (simp [intOf]; done) | (simp [intOf]; omega)
end Go.Proofs.YtlnbekaldemebaaGreatDoor.Thw
/-! ## Layer 13 (publish): both remotes and the last manifest, apart; what PublishPlays keeps. -/
namespace Go.Proofs.YtlnbekaldemebaaGreatDoor.Thw
open Go Go.RowKit Go.Maps Go.Proofs.YtlnbekaldemebaaGreatDoor.Print Go.Proofs.YtlnbekaldemebaaGreatDoorW.PrintWords Go.Proofs.YtlnbekaldemebaaGreatDoorW.PrintLast Go.Proofs.YtlnbekaldemebaaGreatDoorW.PrintMore
set_option linter.unusedVariables false
set_option linter.unusedSimpArgs false
/-- Both remotes, and the last manifest, apart, above all that was there. -/
structure PSt (w W : World) (d g gm : Nat) (st1 st2 : Rem) (ver : Int) (l : List SgI) (TD TR : Nat → Prop) : Prop where
 dR : RemAt W TD d st1
 rR : RfR W TR g (refL st2.m) st2.s st2.n
 dis : ∀ i, TD i → ¬ TR i
 hD : ∀ i, TD i → w.heap.size ≤ i ∧ i < W.heap.size
 hR : ∀ i, TR i → w.heap.size ≤ i
 hg : w.heap.size ≤ gm ∧ ¬ TD gm ∧ ¬ TR gm
 man : ∃ Am cm, W.heap[gm]? = some (.cells #[.int .i64 ver, .slice Am l.length cm] 25) ∧ Kd.R k45 45 W w.heap.size (fun k => ¬ TD k ∧ ¬ TR k) (.slice Am l.length cm) l
 bel : Below w.heap.size w W
section
variable {w W W' : World} {d g gm : Nat} {st1 st2 x : Rem} {ver : Int} {l : List SgI} {TD TR TD' TR' : Nat → Prop}
theorem PSt.rowD {α : Type} {K : Kd α} {e : Nat} {v : Value} {xs : List α} (h : PSt w W d g gm st1 st2 ver l TD TR) (s : RSt W TD d x W' TD') (r : K.R e W w.heap.size (fun k => ¬ TD k ∧ ¬ TR k) v xs) : K.R e W' w.heap.size (fun k => ¬ TD' k ∧ ¬ TR k) v xs :=
 Kd.R_mono (Kd.R_step (Kd.R_bound r) (fun k hk hlt => s.frm.block k hlt hk.1.1)) (fun k hk => ⟨fun ht => (s.sub k ht).1.elim hk.1.1 (fun hge => by have := hk.2.2.1; omega), hk.1.2⟩)
theorem PSt.rowR {α : Type} {K : Kd α} {e : Nat} {v : Value} {xs : List α} (h : PSt w W d g gm st1 st2 ver l TD TR) (s : DSt W TR g x W' TR') (r : K.R e W w.heap.size (fun k => ¬ TD k ∧ ¬ TR k) v xs) : K.R e W' w.heap.size (fun k => ¬ TD k ∧ ¬ TR' k) v xs :=
 Kd.R_mono (Kd.R_step (Kd.R_bound r) (fun k hk hlt => s.frm.block k hlt hk.1.2)) (fun k hk => ⟨hk.1.1, fun ht => (s.sub k ht).1.elim hk.1.2 (fun hge => by have := hk.2.2.1; omega)⟩)
theorem PSt.newD {α : Type} {K : Kd α} {e : Nat} {v : Value} {xs : List α} (h : PSt w W d g gm st1 st2 ver l TD TR) (r : K.R e W' W.heap.size (fun k => ¬ TD' k) v xs) : K.R e W' w.heap.size (fun k => ¬ TD' k ∧ ¬ TR k) v xs :=
 Kd.R_mono (Kd.R_lower (Kd.R_mono (Kd.R_bound r) (ok' := fun k => ¬ TD' k ∧ W.heap.size ≤ k) (fun k hk => ⟨hk.1, hk.2.1⟩)) h.bel.size) (fun k hk => ⟨hk.1, fun ht => by have := h.rR.old k ht; have := hk.2; omega⟩)
theorem PSt.newR {α : Type} {K : Kd α} {e : Nat} {v : Value} {xs : List α} (h : PSt w W d g gm st1 st2 ver l TD TR) (r : K.R e W' W.heap.size (fun k => ¬ TR' k) v xs) : K.R e W' w.heap.size (fun k => ¬ TD k ∧ ¬ TR' k) v xs :=
 Kd.R_mono (Kd.R_lower (Kd.R_mono (Kd.R_bound r) (ok' := fun k => ¬ TR' k ∧ W.heap.size ≤ k) (fun k hk => ⟨hk.1, hk.2.1⟩)) h.bel.size) (fun k hk => ⟨fun ht => by have := (h.hD k ht).2; have := hk.2; omega, hk.1⟩)
theorem PSt.below (h : PSt w W d g gm st1 st2 ver l TD TR) (b : Below W.heap.size W W') : PSt w W' d g gm st1 st2 ver l TD TR := by
 obtain ⟨Am, cm, hm, hr⟩ := h.man
 exact ⟨h.dR.frm (S := None') (Frm.of_new b) (fun _ _ x => x), h.rR.below b, h.dis, fun i hi => ⟨(h.hD i hi).1, Nat.lt_of_lt_of_le (h.hD i hi).2 b.size⟩, h.hR, h.hg, ⟨Am, cm, blk_below hm b, Kd.R_below hr b⟩, h.bel.trans (b.mono h.bel.size)⟩
theorem PSt.notD (h : PSt w W d g gm st1 st2 ver l TD TR) {k : Nat} (hk : W.heap.size ≤ k) : ¬ TD k := fun ht => by have := (h.hD k ht).2; omega
theorem PSt.notR (h : PSt w W d g gm st1 st2 ver l TD TR) {k : Nat} (hk : W.heap.size ≤ k) : ¬ TR k := fun ht => by have := h.rR.old k ht; omega
theorem PSt.gmlt (h : PSt w W d g gm st1 st2 ver l TD TR) : gm < W.heap.size := by
 obtain ⟨Am, cm, hm, hr⟩ := h.man
 exact lt_of_block hm
theorem PSt.stepD (h : PSt w W d g gm st1 st2 ver l TD TR) (s : RSt W TD d x W' TD') : PSt w W' d g gm x st2 ver l TD' TR := by
 have hgm := h.gmlt
 have hsz := h.bel.size
 obtain ⟨Am, cm, hm, hr⟩ := h.man
 refine ⟨s.at_, h.rR.frm s.frm (fun k _ hr ht => h.dis k ht hr), fun i hi hr => ?_, fun i hi => ⟨?_, (s.sub i hi).2⟩, h.hR, ⟨h.hg.1, fun ht => ?_, h.hg.2.2⟩, ⟨Am, cm, s.frm.keeps hm h.hg.2.1, h.rowD s hr⟩, h.bel.trans (s.frm.below hsz (fun i _ hi => (h.hD i hi).1))⟩
 ·rcases (s.sub i hi).1 with ht | hge
  ·exact h.dis i ht hr
  ·have := h.rR.old i hr; omega
 ·rcases (s.sub i hi).1 with ht | hge
  ·exact (h.hD i ht).1
  ·omega
 ·rcases (s.sub gm ht).1 with ht | hge
  ·exact h.hg.2.1 ht
  ·omega
theorem PSt.stepR (h : PSt w W d g gm st1 st2 ver l TD TR) (s : DSt W TR g x W' TR') : PSt w W' d g gm st1 x ver l TD TR' := by
 have hgm := h.gmlt
 have hsz := h.bel.size
 obtain ⟨Am, cm, hm, hr⟩ := h.man
 refine ⟨h.dR.frm s.frm (fun k hk ht => h.dis k hk ht), s.at_, fun i hi hr => ?_, fun i hi => ⟨(h.hD i hi).1, Nat.lt_of_lt_of_le (h.hD i hi).2 s.frm.size⟩, fun i hi => ?_, ⟨h.hg.1, h.hg.2.1, fun ht => ?_⟩, ⟨Am, cm, s.frm.keeps hm h.hg.2.2, h.rowR s hr⟩, h.bel.trans (s.frm.below hsz (fun i _ hi => h.hR i hi))⟩
 ·rcases (s.sub i hr).1 with ht | hge
  ·exact h.dis i hi ht
  ·have := (h.hD i hi).2; omega
 ·rcases (s.sub i hi).1 with ht | hge
  ·exact h.hR i ht
  ·omega
 ·rcases (s.sub gm ht).1 with ht | hge
  ·exact h.hg.2.2 ht
  ·omega
theorem PSt.laid (h : PSt w W d g gm st1 st2 ver l TD TR) (hL : LaidW w) : ∀ W', Frm TD W W' → LaidW W' := fun W' f => hL.below (h.bel.trans (f.below h.bel.size (fun i _ hi => (h.hD i hi).1)))
/-- Another manifest. -/
theorem PSt.setM (h : PSt w W d g gm st1 st2 ver l TD TR) (ver' : Int) (A' : Option Addr) (c' : Nat) (l' : List SgI) (r' : Kd.R k45 45 W w.heap.size (fun k => ¬ TD k ∧ ¬ TR k) (.slice A' l'.length c') l') :
  PSt w ((W.setCell ⟨gm, 0, none⟩ (.int .i64 ver')).setCell ⟨gm, 1, none⟩ (.slice A' l'.length c')) d g gm st1 st2 ver' l' TD TR := by
 have hgm := h.gmlt
 obtain ⟨Am, cm, hm, hr⟩ := h.man
 have f3 : Frm (fun i => i = gm) W ((W.setCell ⟨gm, 0, none⟩ (.int .i64 ver')).setCell ⟨gm, 1, none⟩ (.slice A' l'.length c')) := ((Frm.refl (fun i => i = gm) W).setCell (Or.inl rfl) _).setCell (Or.inl rfl) _
 refine ⟨h.dR.frm f3 (fun k hk e => h.hg.2.1 (e ▸ hk)), h.rR.frm f3 (fun k _ hk e => h.hg.2.2 (e ▸ hk)), h.dis, fun i hi => ⟨(h.hD i hi).1, Nat.lt_of_lt_of_le (h.hD i hi).2 f3.size⟩, h.hR, h.hg, ⟨A', c', two_put hm _ _, ?_⟩, (h.bel.setCell (p := ⟨gm, 0, none⟩) h.hg.1 _).setCell (p := ⟨gm, 1, none⟩) h.hg.1 _⟩
 exact Kd.R_mono (Kd.R_step (Kd.R_types r' hm (by decide)) (fun k hk _ => by rw [Below.heap_setCell _ _ _ _ hk.2, Below.heap_setCell _ _ _ _ hk.2])) (fun _ h => h.1)
/-- A store into a box of another kind. -/
theorem PSt.far (h : PSt w W d g gm st1 st2 ver l TD TR) {b t : Nat} {cells : Array Value} (hb : W.heap[b]? = some (.cells cells t (0, 0))) (ht : ∀ q, q ∈ 45 :: k45.E → q ≠ t) (h1 : w.heap.size ≤ b) (nD : ¬ TD b) (nR : ¬ TR b) (hne : b ≠ gm) (f : Frm (fun i => i = b) W W') : PSt w W' d g gm st1 st2 ver l TD TR := by
 obtain ⟨Am, cm, hm, hr⟩ := h.man
 refine ⟨h.dR.frm f (fun k hk e => nD (e ▸ hk)), h.rR.frm f (fun k _ hk e => nR (e ▸ hk)), h.dis, fun i hi => ⟨(h.hD i hi).1, Nat.lt_of_lt_of_le (h.hD i hi).2 f.size⟩, h.hR, h.hg, ⟨Am, cm, f.keeps hm (fun e => hne e.symm), Kd.R_mono (Kd.R_step (Kd.R_types hr hb ht) (fun k hk hlt => f.block k hlt hk.2)) (fun _ h => h.1)⟩, h.bel.trans (f.below h.bel.size (fun i _ hi => by rw [hi]; exact h1))⟩
end
/-! ### what is kept of the objects -/
def FitP (m : Fls) : Prop := ∀ p ∈ m, p.1.size ≤ 100 ∧ p.2.size ≤ 3000
theorem FitP.put {m : Fls} (h : FitP m) {k b : ByteArray} (hk : k.size ≤ 100) (hb : b.size ≤ 3000) : FitP (Thw.put m k b) := by
 intro p hp
 unfold Thw.put at hp
 split at hp
 ·obtain ⟨q, hq, rfl⟩ := List.mem_map.1 hp
  split
  ·exact ⟨hk, hb⟩
  ·exact h q hq
 ·rcases List.mem_append.1 hp with hp | hp
  ·exact h p hp
  ·rw [List.mem_singleton.1 hp]; exact ⟨hk, hb⟩
theorem FitP.look {m : Fls} (h : FitP m) : ∀ k b, look m k = some b → b.size ≤ 3000 := fun k b hb => by
 unfold Thw.look at hb
 cases hf : m.find? fun p => decide (p.1 = k) with
 | none => rw [hf] at hb; cases hb
 | some p =>
  rw [hf] at hb
  cases hb
  exact (h p (List.mem_of_find?_eq_some hf)).2
theorem FitP.names {m : Fls} (h : FitP m) : ∀ k ∈ Thw.names m, k.size ≤ 100 := fun k hk => by
 obtain ⟨p, hp, rfl⟩ := List.mem_map.1 (mem_names.1 hk)
 exact (h p hp).1
/-- What a round keeps. -/
structure KeepP (i : Nat) (st : Rem) (ver : Int) (l : List SgI) : Prop where
 len : st.m.length ≤ i
 nd : (st.m.map (·.1)).Nodup
 fit : FitP st.m
 ln : l.length ≤ 1000
 rng : -9223372036854775808 ≤ ver ∧ ver ≤ 9223372036854775807
theorem KeepP.good {i : Nat} {st : Rem} {ver : Int} {l : List SgI} (h : KeepP i st ver l) (hi : i ≤ 60) : GoodR st := ⟨by have := h.len; omega, h.nd⟩
theorem KeepP.same {i : Nat} {st x : Rem} {ver ver' : Int} {l l' : List SgI} (h : KeepP i st ver l) (hm : x.m = st.m) (hl : l'.length ≤ 1000) (hr : -9223372036854775808 ≤ ver' ∧ ver' ≤ 9223372036854775807) : KeepP (i + 1) x ver' l' :=
 ⟨by rw [hm]; have := h.len; omega, by rw [hm]; exact h.nd, by rw [hm]; exact h.fit, hl, hr⟩
theorem KeepP.put {i : Nat} {st x : Rem} {ver ver' : Int} {l l' : List SgI} (h : KeepP i st ver l) {k b : ByteArray} (hk : k.size ≤ 100) (hb : b.size ≤ 3000) (hm : x.m = st.m ∨ x.m = Thw.put st.m k b) (hl : l'.length ≤ 1000) (hr : -9223372036854775808 ≤ ver' ∧ ver' ≤ 9223372036854775807) : KeepP (i + 1) x ver' l' := by
 rcases hm with hm | hm
 ·exact h.same hm hl hr
 ·exact ⟨by rw [hm]; have := put_lenD st.m k b; have := h.len; omega, by rw [hm]; exact nodup_put' h.nd k b, by rw [hm]; exact h.fit.put hk hb, hl, hr⟩
theorem KeepP.del {i : Nat} {st : Rem} {ver : Int} {l : List SgI} (h : KeepP i st ver l) (k : ByteArray) : KeepP (i + 1) (st.delete k).1 ver l := by
 unfold Rem.delete
 split
 ·exact h.same rfl h.ln h.rng
 ·refine ⟨?_, nodup_del h.nd k, fun p hp => h.fit p (List.mem_filter.1 hp).1, h.ln, h.rng⟩
  have : (Thw.del st.m k).length ≤ st.m.length := List.length_filter_le _ _
  have := h.len
  show (Thw.del st.m k).length ≤ _
  omega
theorem latStep_mP (st : Rem) (k : ByteArray) : (latStep st k).1.m = st.m := by
 unfold latStep
 split
 ·rfl
 ·split
  ·exact get_m _ _
  ·split
   ·split
    ·split
     ·exact get_m _ _
     ·exact get_m _ _
    ·exact get_m _ _
   ·exact get_m _ _
theorem latRun_mP : ∀ (l : List ByteArray) (st : Rem), (latRun st l).1.m = st.m
 | [], st => rfl
 | k :: l, st => by
  rw [latRun]
  split
  ·rw [latRun_mP l, latStep_mP]
  ·exact latStep_mP st k
theorem lat_mP (st : Rem) : (pubLatest st).1.m = st.m := by
 unfold pubLatest
 split
 ·rfl
 ·unfold latEnd
  split
  ·exact latRun_mP _ _
  ·exact latRun_mP _ _
theorem latStep_ok {st : Rem} {k : ByteArray} {r : (Int × List SgI) × Int} (h : (latStep st k).2 = some r) : r.1.2.length ≤ 1000 ∧ (-9223372036854775808 ≤ r.1.1 ∧ r.1.1 ≤ 9223372036854775807) := by
 unfold latStep at h
 split at h
 ·cases h
 ·rename_i v hv
  split at h
  ·cases h; exact ⟨Nat.zero_le _, by simp⟩
  ·split at h
   ·split at h
    ·rename_i u lu hr
     split at h
     ·cases h
      rename_i huv
      cases hrr : readR (L (st.get k).2.1) with
      | mk o e =>
       rw [hrr] at hr
       simp only at hr
       subst hr
       obtain ⟨_, h2, _, _⟩ := readR_of hrr
       obtain ⟨h3, h4, h5, _⟩ := rightB_of h2
       rw [List.length_map] at h5
       refine ⟨by rw [List.length_map]; omega, ?_⟩
       subst huv
       simp only
       omega
     ·cases h
    ·cases h
   ·cases h
theorem latRun_ok : ∀ (l : List ByteArray) (st : Rem) (r : (Int × List SgI) × Int), (latRun st l).2 = some r → r.1.2.length ≤ 1000 ∧ (-9223372036854775808 ≤ r.1.1 ∧ r.1.1 ≤ 9223372036854775807)
 | [], st, r, h => by cases h
 | k :: l, st, r, h => by
  rw [latRun] at h
  split at h
  ·exact latRun_ok l _ r h
  ·rename_i r' hr'
   cases h
   exact latStep_ok hr'
theorem lat_ok (st : Rem) : (pubLatest st).2.1.2.length ≤ 1000 ∧ (-9223372036854775808 ≤ (pubLatest st).2.1.1 ∧ (pubLatest st).2.1.1 ≤ 9223372036854775807) := by
 unfold pubLatest
 split
 ·exact ⟨Nat.zero_le _, by simp⟩
 ·unfold latEnd
  split
  ·exact ⟨Nat.zero_le _, by simp⟩
  ·rename_i r hr
   exact latRun_ok _ _ _ hr
theorem next_ok (st : Rem) (v : Int) (l : List SgI) (hl : l.length ≤ 1000) : (pubNext st v l).2.1.2.length ≤ 1000 ∧ (-9223372036854775808 ≤ (pubNext st v l).2.1.1 ∧ (pubNext st v l).2.1.1 ≤ 9223372036854775807) := by
 have hw := wrap64_rng (v + 1)
 unfold pubNext
 split
 ·exact ⟨Nat.zero_le _, by simp⟩
 ·split
  ·exact ⟨hl, hw⟩
  ·split
   ·exact ⟨hl, hw⟩
   ·exact ⟨Nat.zero_le _, by simp⟩
theorem next_mP (st : Rem) (v : Int) (l : List SgI) : (pubNext st v l).1.m = st.m ∨ (pubNext st v l).1.m = Thw.put st.m (mnf (wrap64 (v + 1))) (bytesR (wrap64 (v + 1)) l).1 := by
 have h := putNew_st st (mnf (wrap64 (v + 1))) (bytesR (wrap64 (v + 1)) l).1
 unfold pubNext
 split
 ·exact Or.inl rfl
 ·split
  ·exact h
  ·split
   ·simp only [get_m]; exact h
   ·simp only [get_m]; exact h
theorem bytesR_len (v : Int) (l : List SgI) (hl : l.length ≤ 30) : (bytesR v l).1.size ≤ 3000 := by
 unfold bytesR
 split
 ·rw [B_size, sealS_length]
  have h1 := putS_len v.toNat
  have h2 := putS_len (l.map unSg).length
  have h3 := segsB_len (l.map unSg)
  unfold bodyS
  rw [List.length_append, List.length_append]
  rw [List.length_map] at h3
  omega
 ·exact Nat.zero_le _
theorem up_mP (st : Rem) (n : Int) (b : ByteArray) : (pubUpload st n b).1.m = st.m ∨ (pubUpload st n b).1.m = Thw.put st.m (obj n) b := by
 have h := put_st st (obj n) b
 unfold pubUpload
 split
 ·exact Or.inl rfl
 ·split
  ·show ((st.put (obj n) b).1.get (obj n)).1.m = _ ∨ _; rw [get_m]; exact h
  ·split
   ·show ((st.put (obj n) b).1.get (obj n)).1.m = _ ∨ _; rw [get_m]; exact h
   ·show ((st.put (obj n) b).1.get (obj n)).1.m = _ ∨ _; rw [get_m]; exact h
theorem fetch_mP (st : Rem) (s : SgI) : (pubFetch st s).1.m = st.m := by
 unfold pubFetch
 split
 ·exact get_m _ _
 ·split
  ·exact get_m _ _
  ·exact get_m _ _
end Go.Proofs.YtlnbekaldemebaaGreatDoor.Thw
/-! ## Layer 13 (publish): the law PublishPlays (printed by gen13y.py). -/
namespace Go.Proofs.YtlnbekaldemebaaGreatDoor.Thw
open Go Go.RowKit Go.Maps Go.Proofs.YtlnbekaldemebaaGreatDoor.Print Go.Proofs.YtlnbekaldemebaaGreatDoorW.PrintWords Go.Proofs.YtlnbekaldemebaaGreatDoorW.PrintLast Go.Proofs.YtlnbekaldemebaaGreatDoorW.PrintMore
set_option linter.unusedVariables false
set_option linter.unusedSimpArgs false
theorem RfR.script {w w1 : World} {A : Nat → Prop} {g : Nat} {L : List RObj} {s xs : List Int} {n : Int} (h : RfR w A g L s n) (hb : Below w.heap.size w w1) {v : Value} (hR : (Kd.int .i64).R 3 w1 w.heap.size (fun _ => True) v xs) : RfR (w1.setCell ⟨g, 1, none⟩ v) (nA A w (w1.setCell ⟨g, 1, none⟩ v)) g L xs n ∧ Frm A w (w1.setCell ⟨g, 1, none⟩ v) := by
 obtain ⟨h1, h2, v0, sv, h3, h4, h5⟩ := h
 have hlt := blk_lt h3
 have hg := blk_below h3 hb
 have hsz : (w1.setCell ⟨g, 1, none⟩ v).heap.size = w1.heap.size := by simp [World.setCell]
 refine ⟨⟨⟨Or.inl h1, by rw [hsz]; exact blk_lt hg⟩, fun k hk => hk.2, v0, v, by simpa using blk_set hg 1 v, ?_, ?_⟩, (Frm.of_new hb).setCell (Or.inl h1) _⟩
 ·refine Kd.R_mono (Kd.R_far (Kd.R_bound (Kd.R_below h4 hb)) (p := ⟨g, 1, none⟩) (fun k hk => hk.1.2) v) (fun k hk => ?_)
  exact ⟨⟨Or.inl hk.1.1, by rw [hsz]; exact hk.2.2.1⟩, hk.1.2⟩
 ·refine Kd.Q_mono (Kd.Q_far (Kd.Q_bound (Kd.Q_lower (Kd.Q_mono (Kd.Q_bound (Kd.Q_of_R hR)) (ok' := fun k => w.heap.size ≤ k) (fun k hk => hk.2.1)) (Nat.zero_le _))) (p := ⟨g, 1, none⟩) (fun k hk => by have := hk.1; show k ≠ g; omega) v) (fun k hk => ?_)
  exact ⟨⟨Or.inr hk.1, by rw [hsz]; exact hk.2.2.1⟩, by have := hk.1; omega⟩
structure OpP where
 f0 : Int
 f1 : Int
 f2 : ByteArray
 f3 : ByteArray
 f4 : List SgI
 f5 : List Int
def OpsP (W : World) (A : Option Addr) (n : Nat) (ops : Nat → OpP) : Prop :=
 ∀ i, i < n → ∃ ad A4 c4 A5 c5, A = some ad ∧ W.cell? (ad.add (i * 6)) = some (.int .i64 (ops i).f0) ∧ W.cell? ⟨(ad.add (i * 6)).block, (ad.add (i * 6)).off + 1, none⟩ = some (.int .i64 (ops i).f1) ∧ W.cell? ⟨(ad.add (i * 6)).block, (ad.add (i * 6)).off + 2, none⟩ = some (.string (ops i).f2) ∧ W.cell? ⟨(ad.add (i * 6)).block, (ad.add (i * 6)).off + 3, none⟩ = some (.string (ops i).f3) ∧
  W.cell? ⟨(ad.add (i * 6)).block, (ad.add (i * 6)).off + 4, none⟩ = some (.slice A4 (ops i).f4.length c4) ∧ (ops i).f4.length ≤ c4 ∧ Kd.C k45 W A4 (ops i).f4.length (ops i).f4 ∧
  W.cell? ⟨(ad.add (i * 6)).block, (ad.add (i * 6)).off + 5, none⟩ = some (.slice A5 (ops i).f5.length c5) ∧ (ops i).f5.length ≤ c5 ∧ (Kd.int .i64).C W A5 (ops i).f5.length (ops i).f5
def OkP (o : OpP) : Prop := (-9223372036854775808 ≤ o.f1 ∧ o.f1 ≤ 9223372036854775807) ∧ (∀ x ∈ o.f4, U32 x ∧ (-9223372036854775808 ≤ x.f0 ∧ x.f0 ≤ 9223372036854775807)) ∧ o.f5.length * 8 ≤ 140737488351232
theorem cells6o {w : World} {s : Nat} {v0 v1 v2 v3 v4 v5 : Value} {t : TypeId} (h : w.heap[s]? = some (.cells #[v0, v1, v2, v3, v4, v5] t)) :
  w.cell? ⟨s, 0, none⟩ = some v0 ∧ w.cell? ⟨s, 1, none⟩ = some v1 ∧ w.cell? ⟨s, 2, none⟩ = some v2 ∧ w.cell? ⟨s, 3, none⟩ = some v3 ∧ w.cell? ⟨s, 4, none⟩ = some v4 ∧ w.cell? ⟨s, 5, none⟩ = some v5 ∧ ∀ i, w.frozen? ⟨s, i, none⟩ = false := by
 refine ⟨?_, ?_, ?_, ?_, ?_, ?_, fun i => ?_⟩ <;> simp [World.cell?, World.frozen?, h]
theorem addr_zero (ad : Addr) : ad.add 0 = ad := by unfold Addr.add; split <;> simp_all
theorem refL_nil : refL [] = [] := by simp [refL, names, sorted]
/-- What holds behind both remotes' calls. -/
def PlayP (w W : World) (d g gm i : Nat) : Prop := ∃ st ver l TD TR, PSt w W d g gm st st ver l TD TR ∧ KeepP (i + 1) st ver l
def pp15T : Bool × List (List Nat × List Nat) := (true, [([], []), ([], []), ([1], [1]), ([0, 2], [0, 2]), ([], []), ([], []), ([5], [5]), ([4, 6, 3], [4, 6]), ([3, 7], [3, 7]), ([8, 7, 0, 1, 2, 3, 4, 5, 6, 7, 8], [8])])
def pp15B : List Nat := [0, 0, 2, 7, 0, 0, 32, 127, 255, 511]
theorem pp15tab : rtab .any (opsOf Tryz.f6 15) = pp15T := by kernel_rfl
theorem pp15bits : waitsOk pp15T.2 pp15B = true := by kernel_rfl
def pp19T : Bool × List (List Nat × List Nat) := (true, [([], []), ([0], [0]), ([], []), ([1, 2, 1], [1, 2]), ([3, 3, 0, 1, 2, 3], [3])])
def pp19B : List Nat := [0, 1, 0, 7, 15]
theorem pp19tab : rtab .any (opsOf Tryz.f6 19) = pp19T := by kernel_rfl
theorem pp19bits : waitsOk pp19T.2 pp19B = true := by kernel_rfl
def pp29T : Bool × List (List Nat × List Nat) := (true, [([], []), ([], []), ([1], [1]), ([], []), ([3], [3]), ([4, 2], [4]), ([0, 2, 5, 5], [0, 2, 5]), ([6], [6]), ([7], [7]), ([7], [7]), ([], []), ([10, 8, 6, 0, 1, 2, 3, 4, 5, 6, 7, 8, 10], [8, 10]), ([9, 11, 0, 1, 2, 3, 4, 5, 6, 7, 8, 9, 10, 11], [9])])
def pp29B : List Nat := [0, 0, 2, 0, 8, 30, 63, 127, 255, 255, 0, 1535, 4095]
theorem pp29tab : rtab .any (opsOf Tryz.f6 29) = pp29T := by kernel_rfl
theorem pp29bits : waitsOk pp29T.2 pp29B = true := by kernel_rfl
def pp30T : Bool × List (List Nat × List Nat) := (true, [([], []), ([0], [0]), ([], []), ([1, 2, 1], [1, 2]), ([3, 3, 0, 1, 2, 3], [3])])
def pp30B : List Nat := [0, 1, 0, 7, 15]
theorem pp30tab : rtab .any (opsOf Tryz.f6 30) = pp30T := by kernel_rfl
theorem pp30bits : waitsOk pp30T.2 pp30B = true := by kernel_rfl
def pp47T : Bool × List (List Nat × List Nat) := (true, [([], []), ([], []), ([1], [1]), ([], []), ([3], [3]), ([0, 2, 4], [0, 2, 4]), ([], []), ([], []), ([7], [7]), ([], []), ([9], [9]), ([6, 8, 10, 5], [6, 8, 10]), ([5, 11], [5, 11]), ([12, 11, 0, 1, 2, 3, 4, 5, 6, 7, 8, 9, 10, 11, 12], [12])])
def pp47B : List Nat := [0, 0, 2, 0, 8, 31, 0, 0, 128, 0, 512, 2047, 4095, 8191]
theorem pp47tab : rtab .any (opsOf Tryz.f6 47) = pp47T := by kernel_rfl
theorem pp47bits : waitsOk pp47T.2 pp47B = true := by kernel_rfl
def pp48T : Bool × List (List Nat × List Nat) := (true, [([], []), ([0], [0]), ([1], [1]), ([2], [2]), ([3, 2, 2], [2, 3]), ([2], [2]), ([5, 2], [2, 5]), ([6, 2], [2, 6]), ([7, 2], [2, 7]), ([4, 8, 2], [2, 4, 8]), ([2, 9], [2, 9])])
def pp48B : List Nat := [0, 1, 3, 7, 15, 7, 39, 103, 231, 511, 1023]
theorem pp48tab : rtab .any (opsOf Tryz.f6 48) = pp48T := by kernel_rfl
theorem pp48bits : waitsOk pp48T.2 pp48B = true := by kernel_rfl
set_option maxHeartbeats 51200000 in
set_option maxRecDepth 100000 in
theorem plays13_walk (A1 : Option Addr) (n c1 : Nat) (ops : Nat → OpP) (w : World) (hL : LaidW w) (hc : OpsP w A1 n ops) (hs : ∀ i, i < n → OkP (ops i)) (hn : n ≤ c1) :
  Calls Tryz.prog 6 #[.slice A1 n c1] w fun e w' => e = .returned (.bool true) ∧ Below w.heap.size w w' := by
 have HL := Aside0.mk hL
 have HC := Aside0.mk hc
 have HS := Aside0.mk hs
 clear hL hc hs
 go_enter Tryz.func6, Tryz.ntmps6
 go_wp2_with fail
 refine (awake13.calls w HL.out).mono ?_
 rintro e w1 ⟨rfl, b1⟩
 have B1 := Aside0.mk b1
 clear b1
 go_wp2_with fail
 refine (remote_New.calls w1).mono ?_
 rintro e w2 ⟨d, rfl, h2, b2⟩
 have H2 := Aside0.mk (show RemAt w2 (fun k => w1.heap.size ≤ k ∧ k < w2.heap.size) d ⟨[], [], 0⟩ from h2.mono fun k hk hge => ⟨hge, hk⟩)
 have B2 := Aside0.mk b2
 clear h2 b2
 go_upto_region 7 with (fail)
 obtain ⟨w3, hw3⟩ : ∃ w3, w2.alloc (.cells #[.slice none 0 0, .slice none 0 0, .int .i64 0] 57) = w3 := ⟨_, rfl⟩
 have P0 := Aside0.mk (show PSt w (w3.alloc (.cells #[.int .i64 0, .slice none 0 0] 25)) d w2.heap.size w3.heap.size ⟨[], [], 0⟩ ⟨[], [], 0⟩ 0 [] (fun k => w1.heap.size ≤ k ∧ k < w2.heap.size) (fun k => k = w2.heap.size) by
  have z3 : w3.heap.size = w2.heap.size + 1 := by rw [← hw3]; simp
  have z1 := B1.out.size
  have z2 := B2.out.size
  have hX : w3.heap[w2.heap.size]? = some (.cells #[.slice none 0 0, .slice none 0 0, .int .i64 0] 57) := by rw [← hw3]; exact blk_new _ _
  refine ⟨(by rw [← hw3]; exact (H2.out.alloc _).alloc _), ⟨rfl, fun k hk => by rw [hk]; simp; omega, _, _, blk_alloc hX _, (by rw [refL_nil]; exact Kd.R_nil _ _ _ _ _), Kd.Q_nil _ _ _ _ _⟩, fun i hi e => by omega, fun i hi => ⟨by omega, by simp; omega⟩, fun i hi => by omega, ⟨by omega, fun h => by omega, fun h => by omega⟩, ⟨none, 0, blk_new _ _, Kd.R_nil _ _ _ _ _⟩, ?_⟩
  rw [← hw3]
  exact ((B1.out.trans (B2.out.mono z1)).alloc (by omega) _).alloc (by simp; omega) _)
 have z3 : w3.heap.size = w2.heap.size + 1 := by rw [← hw3]; simp
 rw [z3] at P0
 rw [hw3]
 clear hw3 H2 z3
 obtain ⟨gm, hgm⟩ : ∃ g, w2.heap.size + 1 = g := ⟨_, rfl⟩
 rw [hgm] at P0 ⊢
 obtain ⟨g, hg⟩ : ∃ g, w2.heap.size = g := ⟨_, rfl⟩
 rw [hg] at P0 ⊢
 generalize w3.alloc (.cells #[.int .i64 0, .slice none 0 0] 25) = w4 at P0 ⊢
 clear hg hgm B1 B2
 go_wp2_with fail
 go_loopw [7] (fun v7 wr => ∃ (i : Nat) (st : Rem) (ver : Int) (l : List SgI) (TD TR : Nat → Prop), v7 = .int .i64 i ∧ i ≤ n ∧ i ≤ 60 ∧ Aside0 (KeepP i st ver l) ∧ Aside0 (PSt w wr d g gm st st ver l TD TR)) (fun v7 _ => n - (intOf v7).toNat)
 case atStart => exact ⟨0, ⟨[], [], 0⟩, 0, [], _, _, rfl, Nat.zero_le _, Nat.zero_le _, ⟨⟨Nat.le_refl _, List.nodup_nil, (fun p hp => by cases hp), Nat.zero_le _, by omega⟩⟩, P0⟩
 case round =>
  obtain ⟨i, st, ver, l, TD, TR, rfl, hin, hi60, HK, HP⟩ := hrel
  by_cases hlt : i < n
  case neg =>
   have d1 : decide ((i : Int) < (n : Int)) = false := decide_eq_false (by omega)
   go_wp2_with fail
   go_ret
   exact ⟨rfl, HP.out.bel⟩
  have d1 : decide ((i : Int) < (n : Int)) = true := decide_eq_true (by omega)
  by_cases hl60 : i < 60
  case neg =>
   have d2 : decide ((i : Int) < 60) = false := decide_eq_false (by omega)
   go_wp2_with fail
   go_ret
   exact ⟨rfl, HP.out.bel⟩
  have d2 : decide ((i : Int) < 60) = true := decide_eq_true (by omega)
  obtain ⟨ad, A4, c4, A5, c5, rfl, q0, q1, q2, q3, q4, hc4, hC4, q5, hc5, hC5⟩ := HC.out i hlt
  have HO := Aside0.mk (HS.out i hlt)
  generalize ops i = o at q0 q1 q2 q3 q4 q5 hc4 hC4 hc5 hC5 HO
  obtain ⟨x0, x1, x2, x3, sg, sc⟩ := o
  simp only at q0 q1 q2 q3 q4 q5 hc4 hC4 hc5 hC5
  replace q0 := pw_cell_below HP.out.bel q0
  replace q1 := pw_cell_below HP.out.bel q1
  replace q2 := pw_cell_below HP.out.bel q2
  replace q3 := pw_cell_below HP.out.bel q3
  replace q4 := pw_cell_below HP.out.bel q4
  replace q5 := pw_cell_below HP.out.bel q5
  have HC4 := Aside0.mk hC4
  have HC5 := Aside0.mk hC5
  have i0 : 0 ≤ (i : Int) := by omega
  clear hC4 hC5
  have BO := Aside0.mk (below_alloc (Below.refl wr.heap.size wr) (.cells #[.int .i64 x0, .int .i64 x1, .string x2, .string x3, .slice A4 sg.length c4, .slice A5 sc.length c5] 59))
  by_cases g30 : 30 < sg.length
  ·have d30 : decide ((30 : Int) < (sg.length : Int)) = true := decide_eq_true (by omega)
   go_wp2_with fail
   go_ret
   exact ⟨rfl, (HP.out.below BO.out).bel⟩
  have d30 : decide ((30 : Int) < (sg.length : Int)) = false := decide_eq_false (by omega)
  by_cases g300 : 300 < x3.size
  ·have d300 : decide ((300 : Int) < (x3.size : Int)) = true := decide_eq_true (by omega)
   go_wp2_with fail
   go_ret
   exact ⟨rfl, (HP.out.below BO.out).bel⟩
  have d300 : decide ((300 : Int) < (x3.size : Int)) = false := decide_eq_false (by omega)
  by_cases g100 : 100 < x2.size
  ·have d100 : decide ((100 : Int) < (x2.size : Int)) = true := decide_eq_true (by omega)
   go_wp2_with fail
   go_ret
   exact ⟨rfl, (HP.out.below BO.out).bel⟩
  have d100 : decide ((100 : Int) < (x2.size : Int)) = false := decide_eq_false (by omega)
  have HZ := Aside0.mk (show sg.length ≤ 30 ∧ x3.size ≤ 300 ∧ x2.size ≤ 100 from ⟨by omega, by omega, by omega⟩)
  go_upto_block 2 with (fail)
  have P4 := Aside0.mk (HP.out.below BO.out)
  have K4 := Aside0.mk (blk_new wr (.cells #[.int .i64 x0, .int .i64 x1, .string x2, .string x3, .slice A4 sg.length c4, .slice A5 sc.length c5] 59))
  obtain ⟨bx, hbx⟩ : ∃ bx, wr.heap.size = bx := ⟨_, rfl⟩
  rw [hbx] at K4 ⊢
  have HBX := Aside0.mk (show w.heap.size ≤ bx ∧ ¬ TD bx ∧ ¬ TR bx ∧ bx ≠ gm from ⟨by have := HP.out.bel.size; omega, HP.out.notD (Nat.le_of_eq hbx), HP.out.notR (Nat.le_of_eq hbx), by have := HP.out.gmlt; omega⟩)
  clear hbx
  generalize wr.alloc (.cells #[.int .i64 x0, .int .i64 x1, .string x2, .string x3, .slice A4 sg.length c4, .slice A5 sc.length c5] 59) = w4 at P4 K4 ⊢
  have HGD := Aside0.mk (HK.out.good hi60)
  clear q0 q1 q2 q3 q4 q5 HP BO
  go_cut [9, 10, 11, 12, 13, 14, 15, 16, 17, 18, 19, 20, 21, 22, 23, 24, 25, 26, 27, 28] from 69 to 249 (fun s9 s10 s11 s12 s13 s14 s15 s16 s17 s18 s19 s20 s21 s22 s23 s24 s25 s26 s27 s28 wx => s9 = .bool true ∧ Aside0 (PlayP w wx d g gm i))
  case first =>
   rcases Bool.eq_false_or_eq_true (x0 == 0) with z0 | z0
   ·as_aux_lemma =>
    go_wp2_with fail
    obtain ⟨X, hX⟩ : ∃ X, pubLatest st = X := ⟨_, rfl⟩
    have HXO := Aside0.mk (hX ▸ lat_ok st)
    have HXM := Aside0.mk (hX ▸ lat_mP st)
    refine (pub_Latest.calls w4 TD d st P4.out.dR (fun k hk => (P4.out.hD k hk).2) (P4.out.laid HL.out) (by have := HK.out.len; omega) (fun k hk => by have := HK.out.fit.names k hk; omega) (fun k b hb => by have := HK.out.fit.look k b hb; omega)).mono ?_
    rintro e w5 ⟨AA, cA, TD5, rfl, hR5, s5⟩
    rw [hX] at hR5 s5 ⊢
    have P5 := Aside0.mk (P4.out.stepD s5)
    have R5 := Aside0.mk (P4.out.newD hR5)
    clear hR5 s5 K4
    obtain ⟨x1', ⟨xv, xl⟩, xe⟩ := X
    simp only at P5 R5 HXO HXM ⊢
    go_upto_region 18 with (fail)
    have P6 := Aside0.mk (P5.out.below (newTwo w5 (.cells #[.int .i64 xv, .slice AA xl.length cA] 25)))
    have XA6 := Aside0.mk (blk_new w5 (.cells #[.int .i64 xv, .slice AA xl.length cA] 25))
    have R6 := Aside0.mk (Kd.R_below R5.out (newTwo w5 (.cells #[.int .i64 xv, .slice AA xl.length cA] 25)))
    have HNB := Aside0.mk (P5.out.notR (Nat.le_refl w5.heap.size))
    obtain ⟨ba, hba⟩ : ∃ b, w5.heap.size = b := ⟨_, rfl⟩
    rw [hba] at XA6 HNB ⊢
    generalize w5.alloc (.cells #[.int .i64 xv, .slice AA xl.length cA] 25) = w6 at P6 XA6 R6 ⊢
    clear hba P5 R5
    go_wp2_with fail
    refine (ref_Latest.calls w6 TR g st P6.out.rR HGD.out (fun k hk => by have := HK.out.fit.names k hk; omega) (fun k b hb => by have := HK.out.fit.look k b hb; omega)).mono ?_
    rintro e w7 ⟨AB, cB, TR7, rfl, hR7, s7⟩
    rw [hX] at hR7 s7 ⊢
    simp only at hR7 s7 ⊢
    have P7 := Aside0.mk (P6.out.stepR s7)
    have R7 := Aside0.mk (P6.out.rowR s7 R6.out)
    have RB7 := Aside0.mk (P6.out.newR hR7)
    have XA7 := Aside0.mk (s7.keeps XA6.out HNB.out)
    clear hR7 s7 P6 R6 XA6 HNB hX
    go_upto_region 19 with (fail)
    have P8 := Aside0.mk (P7.out.below (newTwo w7 (.cells #[.int .i64 xv, .slice AB xl.length cB] 32)))
    have XA := Aside0.mk (blk_alloc XA7.out (.cells #[.int .i64 xv, .slice AB xl.length cB] 32))
    have XB := Aside0.mk (blk_new w7 (.cells #[.int .i64 xv, .slice AB xl.length cB] 32))
    have RA := Aside0.mk (Kd.R_below R7.out (newTwo w7 (.cells #[.int .i64 xv, .slice AB xl.length cB] 32)))
    have RB := Aside0.mk (Kd.R_below RB7.out (newTwo w7 (.cells #[.int .i64 xv, .slice AB xl.length cB] 32)))
    obtain ⟨bb, hbb⟩ : ∃ b, w7.heap.size = b := ⟨_, rfl⟩
    rw [hbb] at XB ⊢
    generalize w7.alloc (.cells #[.int .i64 xv, .slice AB xl.length cB] 32) = w8 at P8 XA XB RA RB ⊢
    clear hbb P7 R7 RB7 XA7
    have HLN := Aside0.mk HXO.out.1
    have CA := Aside0.mk (Kd.R_reads' RA.out).2.2
    have HcA := Aside0.mk (Kd.R_reads' RA.out).2.1
    have KN := Aside0.mk (show KeepP (i + 1) x1' xv xl from HK.out.same HXM.out HXO.out.1 HXO.out.2)
    have KO := Aside0.mk (show KeepP (i + 1) x1' ver l from HK.out.same HXM.out HK.out.ln HK.out.rng)
    refine region_draw (n := 5) (S := fun W => Below w8.heap.size w8 W) (ds := []) #[false, false, false, false, false] (by kernel_rfl) rfl rfl (fun W => Below w8.heap.size w8 W) (by exact below_drew1 (Below.refl _ _)) (fun W h => h) ?_
    rintro ws hws
    refine with_tabW pp19tab pp19bits (fun HT_ HW_ => ?_)
    have BS := Aside0.mk hws
    clear hws
    refine take_ (i := 0) (N := some 90) (v := ?_) (a' := ?_) #[true, false, false, false, false] rfl rfl (take_ofW HT_.out HW_.out (by kernel_rfl)) (fun _ _ _ h => h) (Or.inl ⟨by rfl, ?_⟩) BS.out ?_ ?_
    rotate_left
    ·intro w' hW
     obtain ⟨m0, m1, mf⟩ := cells2m (blk_below XA.out hW)
     go_simp
     with_reducible rfl
    rotate_left
    ·simp only [Act.put, List.setIfInBounds_toArray, List.set_cons_zero, List.set_cons_succ, i64_w, i32_w]
     rfl
    refine take_ (i := 2) (N := some 92) (v := ?_) (a' := ?_) #[true, false, true, false, false] rfl rfl (take_ofW HT_.out HW_.out (by kernel_rfl)) (fun _ _ _ h => h) (Or.inl ⟨by rfl, ?_⟩) BS.out ?_ ?_
    rotate_left
    ·intro w' hW
     obtain ⟨m0, m1, mf⟩ := cells2m (blk_below XB.out hW)
     go_simp
     with_reducible rfl
    rotate_left
    ·simp only [Act.put, List.setIfInBounds_toArray, List.set_cons_zero, List.set_cons_succ, i64_w, i32_w]
     rfl
    refine one_ (i := 1) (N := some 91) #[true, true, true, false, false] rfl rfl (one_of HT_.out (by kernel_rfl)) (by decide) (fun K hK => ?_)
    refine goes_ Tryz.func11 (by kernel_rfl) rfl #[.agg #[.int .i64 xv, .slice AA xl.length cA]] (by rfl) rfl rfl (by (try simp only [List.map_toArray, List.map_cons, List.map_nil]); first | done | rfl) ?_
    refine (to_calls xv xl (by have := HLN.out; omega) AA cA ws (Kd.C_below CA.out BS.out) HcA.out).mono ?_
    rintro e wt ⟨AT, cT, rfl, hT, bT⟩
    refine ⟨_, rfl, ?_⟩
    have RT := Aside0.mk hT
    have BT := Aside0.mk (BS.out.trans (bT.mono BS.out.size))
    clear hT bT
    refine hK.out _ _ BT.out (fun _ => ?_)
    clear hK K
    refine norm_ (a' := ?_) ?_ ?_
    rotate_left
    ·show Act.put _ (some 91) _ = _
     simp only [Act.put, List.setIfInBounds_toArray, List.set_cons_zero, List.set_cons_succ, i64_w, i32_w]
     rfl
    refine one_ (i := 3) (N := some 93) #[true, true, true, true, false] rfl rfl (one_of HT_.out (by kernel_rfl)) (by decide) (fun K hK => ?_)
    refine goes_ Tryz.func19 (by kernel_rfl) rfl #[.agg #[.int .i64 xv, .slice AT xl.length cT], .agg #[.int .i64 xv, .slice AB xl.length cB]] (by rfl) rfl rfl (by (try simp only [List.map_toArray, List.map_cons, List.map_nil]); first | done | rfl) ?_
    refine (same_calls xv xv (xl.map cR) (xl.map cR) (by rw [List.length_map]; have := HLN.out; omega) (by rw [List.length_map]; have := HLN.out; omega) AT AB xl.length xl.length cT cB wt _ _ _ _ RT.out (Kd.R_below RB.out BT.out)).mono ?_
    rintro e wu ⟨rfl, bU⟩
    refine ⟨_, rfl, ?_⟩
    rw [decide_eq_true (show xv = xv ∧ xl.map cR = xl.map cR from ⟨rfl, rfl⟩)]
    have BU := Aside0.mk (BT.out.trans (bU.mono BT.out.size))
    clear bU RT
    refine hK.out _ _ BU.out (fun _ => ?_)
    clear hK K
    refine norm_ (a' := ?_) ?_ ?_
    rotate_left
    ·show Act.put _ (some 93) _ = _
     simp only [Act.put, List.setIfInBounds_toArray, List.set_cons_zero, List.set_cons_succ, i64_w, i32_w]
     rfl
    refine pure_ (i := 4) (N := some 14) (v := ?_) (a' := ?_) #[true, true, true, true, true] rfl rfl (any_of HT_.out (by kernel_rfl)) (fun _ _ _ h => h) (Or.inl ⟨by rfl, ?_⟩) ?_ ?_
    rotate_left
    ·intro w'
     go_simp
     with_reducible rfl
    rotate_left
    ·simp only [Act.put, List.setIfInBounds_toArray, List.set_cons_zero, List.set_cons_succ, i64_w, i32_w]
     rfl
    refine done_ (done_of HT_.out (by kernel_rfl)) ?_
    have PU := Aside0.mk (P8.out.below BU.out)
    have XAU := Aside0.mk (blk_below XA.out BU.out)
    have RAU := Aside0.mk (Kd.R_below RA.out BU.out)
    have hee : (xe == xe) = true := beq_self_eq_true _
    clear XA XB RA RB CA BU BT BS
    obtain ⟨Am, cm, hm, _⟩ := PU.out.man
    obtain ⟨m0, m1, mf⟩ := cells2m hm
    obtain ⟨y0, y1, yf⟩ := cells2m XAU.out
    clear hm
    by_cases he0 : xe = 0
    ·subst he0
     have PV := Aside0.mk (PU.out.setM xv AA cA xl RAU.out)
     go_wp2_with fail
     go_meet
     case rel => exact ⟨by first | rfl | simp, ⟨_, _, _, _, _, PV.out, KN.out⟩⟩
    ·have he1 : (xe == 0) = false := beq_eq_false_iff_ne.2 he0
     go_wp2_with fail
     go_meet
     case rel => exact ⟨by first | rfl | simp, ⟨_, _, _, _, _, PU.out, KO.out⟩⟩
   rcases Bool.eq_false_or_eq_true (x0 == 1 || x0 == 2) with z12 | z12
   ·as_aux_lemma =>
    go_upto_if 103 with (fail)
    go_cut [103] from 105 to 105 (fun s103 wx => s103 = .bool true ∧ w4 = wx)
    case first =>
     rcases Bool.eq_false_or_eq_true (x0 == 1) with z1 | z1
     ·go_wp2_with fail
      go_meet
      case rel => exact ⟨by first | rfl | rw [z1], rfl⟩
     ·have z2 : (x0 == 2) = true := by rw [z1, Bool.false_or] at z12; exact z12
      go_wp2_with fail
      go_meet
      case rel => exact ⟨by first | rfl | rw [z1], rfl⟩
    case rest =>
     obtain ⟨rfl, rfl⟩ := hcut
     obtain ⟨Am, cm, hm, hrow⟩ := P4.out.man
     obtain ⟨m0, m1, mf⟩ := cells2m hm
     have ROW4 := Aside0.mk hrow
     clear hm hrow
     go_upto_region 26 with (fail)
     have P5 := Aside0.mk (P4.out.below (newTwo w4 (.cells #[.int .i64 ver, .slice Am l.length cm] 25)))
     have X5 := Aside0.mk (blk_new w4 (.cells #[.int .i64 ver, .slice Am l.length cm] 25))
     have K5 := Aside0.mk (blk_alloc K4.out (.cells #[.int .i64 ver, .slice Am l.length cm] 25))
     have ROW5 := Aside0.mk (Kd.R_below ROW4.out (newTwo w4 (.cells #[.int .i64 ver, .slice Am l.length cm] 25)))
     obtain ⟨b15, hb15⟩ : ∃ b, w4.heap.size = b := ⟨_, rfl⟩
     have H15 := Aside0.mk (show w.heap.size ≤ b15 ∧ ¬ TD b15 ∧ ¬ TR b15 ∧ b15 ≠ gm ∧ b15 ≠ bx from ⟨by have := P4.out.bel.size; omega, P4.out.notD (Nat.le_of_eq hb15), P4.out.notR (Nat.le_of_eq hb15), by have := P4.out.gmlt; omega, by have := lt_of_block K4.out; omega⟩)
     rw [hb15] at X5 ⊢
     generalize w4.alloc (.cells #[.int .i64 ver, .slice Am l.length cm] 25) = w5 at P5 X5 K5 ROW5 ⊢
     clear hb15 m0 m1 mf ROW4 P4 K4
     obtain ⟨k0, k1, k2, k3, k4, k5, kf⟩ := cells6o K5.out
     go_upto_if 110 with (fail)
     go_cut [] from 111 to 113 (fun wx => Aside0 (∃ vx : Int, (-9223372036854775808 ≤ vx ∧ vx ≤ 9223372036854775807) ∧ PSt w wx d g gm st st ver l TD TR ∧ wx.heap[b15]? = some (.cells #[.int .i64 vx, .slice Am l.length cm] 25) ∧ wx.heap[bx]? = some (.cells #[.int .i64 x0, .int .i64 x1, .string x2, .string x3, .slice A4 sg.length c4, .slice A5 sc.length c5] 59) ∧ Kd.R k45 45 wx w.heap.size (fun k => ¬ TD k ∧ ¬ TR k) (.slice Am l.length cm) l))
     case first =>
      obtain ⟨y0, y1, yf⟩ := cells2m X5.out
      go_wp2_with fail
      all_goals (go_meet)
      all_goals (first
       | (case rel => exact ⟨ver, HK.out.rng, P5.out, X5.out, K5.out, ROW5.out⟩)
       | (case rel => exact ⟨x1, HO.out.1, P5.out.far X5.out (by decide) H15.out.1 H15.out.2.1 H15.out.2.2.1 H15.out.2.2.2.1 ((Frm.refl (fun i => i = b15) _).setCell (Or.inl rfl) _), by simpa using blk_set X5.out 0 (.int .i64 x1), ((Frm.refl (fun i => i = b15) w5).setCell (p := ⟨b15, 0, none⟩) (Or.inl rfl) _).keeps K5.out (fun e => H15.out.2.2.2.2 e.symm), Kd.R_mono (Kd.R_step (Kd.R_types ROW5.out X5.out (by decide)) (fun k hk _ => by rw [Below.heap_setCell _ _ _ _ hk.2])) (fun _ h => h.1)⟩))
     case rest =>
      obtain ⟨vx, hvx, p6, x6, k6, row6⟩ := hcut.out
      have P6 := Aside0.mk p6
      have X6 := Aside0.mk x6
      have K6 := Aside0.mk k6
      have ROW6 := Aside0.mk row6
      have HVX := Aside0.mk hvx
      clear hcut p6 x6 k6 row6 P5 X5 K5 ROW5 hvx k0 k1 k2 k3 k4 k5 kf
      rename World => w6
      obtain ⟨k0, k1, k2, k3, k4, k5, kf⟩ := cells6o K6.out
      obtain ⟨y0, y1, yf⟩ := cells2m X6.out
      obtain ⟨X, hX⟩ : ∃ X, pubNext st vx sg = X := ⟨_, rfl⟩
      have HXO := Aside0.mk (hX ▸ next_ok st vx sg (by have := HZ.out; omega))
      have HXM := Aside0.mk (hX ▸ next_mP st vx sg)
      have HU := Aside0.mk (show ∀ x ∈ sg, U32 x from fun x hx => (HO.out.2.1 x hx).1)
      go_wp2_with fail
      refine (pub_Next.calls w6 TD d st P6.out.dR (fun k hk => (P6.out.hD k hk).2) (P6.out.laid HL.out) vx HVX.out Am l.length cm A4 c4 sg (fun W f => Kd.C_below HC4.out (P6.out.bel.trans (f.below P6.out.bel.size (fun i _ hi => (P6.out.hD i hi).1)))) hc4 (by have := HZ.out; omega) HU.out).mono ?_
      rintro e w7 ⟨AA, cA, TD7, rfl, hR7, s7⟩
      rw [hX] at hR7 s7 ⊢
      have P7 := Aside0.mk (P6.out.stepD s7)
      have R7 := Aside0.mk (P6.out.newD hR7)
      have X7 := Aside0.mk (s7.keeps X6.out H15.out.2.1)
      have K7 := Aside0.mk (s7.keeps K6.out HBX.out.2.1)
      have ROW7 := Aside0.mk (P6.out.rowD s7 ROW6.out)
      clear hR7 s7 P6 X6 K6 ROW6 k0 k1 k2 k3 k4 k5 kf y0 y1 yf
      obtain ⟨x1', ⟨xv, xl⟩, xe⟩ := X
      simp only at P7 R7 HXO HXM ⊢
      go_upto_region 29 with (fail)
      have P8 := Aside0.mk (P7.out.below (newTwo w7 (.cells #[.int .i64 xv, .slice AA xl.length cA] 25)))
      have XA8 := Aside0.mk (blk_new w7 (.cells #[.int .i64 xv, .slice AA xl.length cA] 25))
      have X8 := Aside0.mk (blk_alloc X7.out (.cells #[.int .i64 xv, .slice AA xl.length cA] 25))
      have K8 := Aside0.mk (blk_alloc K7.out (.cells #[.int .i64 xv, .slice AA xl.length cA] 25))
      have R8 := Aside0.mk (Kd.R_below R7.out (newTwo w7 (.cells #[.int .i64 xv, .slice AA xl.length cA] 25)))
      have ROW8 := Aside0.mk (Kd.R_below ROW7.out (newTwo w7 (.cells #[.int .i64 xv, .slice AA xl.length cA] 25)))
      have HNB := Aside0.mk (P7.out.notR (Nat.le_refl w7.heap.size))
      obtain ⟨ba, hba⟩ : ∃ b, w7.heap.size = b := ⟨_, rfl⟩
      rw [hba] at XA8 HNB ⊢
      generalize w7.alloc (.cells #[.int .i64 xv, .slice AA xl.length cA] 25) = w8 at P8 XA8 X8 K8 R8 ROW8 ⊢
      clear hba P7 R7 X7 K7 ROW7
      have HLN := Aside0.mk HXO.out.1
      have HLL := Aside0.mk HK.out.ln
      refine region_draw (n := 13) (S := fun W => W.heap[b15]? = some (.cells #[.int .i64 vx, .slice Am l.length cm] 25) ∧ W.heap[bx]? = some (.cells #[.int .i64 x0, .int .i64 x1, .string x2, .string x3, .slice A4 sg.length c4, .slice A5 sc.length c5] 59)) (ds := [11]) #[false, false, false, false, false, false, false, false, false, false, false, false, false] (by kernel_rfl) rfl rfl (fun W => PSt w W d g gm x1' st ver l TD7 TR ∧ W.heap[b15]? = some (.cells #[.int .i64 vx, .slice Am l.length cm] 25) ∧ W.heap[bx]? = some (.cells #[.int .i64 x0, .int .i64 x1, .string x2, .string x3, .slice A4 sg.length c4, .slice A5 sc.length c5] 59) ∧ W.heap[ba]? = some (.cells #[.int .i64 xv, .slice AA xl.length cA] 25) ∧ Kd.R k45 45 W w.heap.size (fun k => ¬ TD7 k ∧ ¬ TR k) (.slice AA xl.length cA) xl ∧ Kd.R k45 45 W w.heap.size (fun k => ¬ TD7 k ∧ ¬ TR k) (.slice Am l.length cm) l) ⟨P8.out.below (below_drew1 (Below.refl _ _)), blk_drew X8.out, blk_drew K8.out, blk_drew XA8.out, Kd.R_below R8.out (below_drew1 (Below.refl _ _)), Kd.R_below ROW8.out (below_drew1 (Below.refl _ _))⟩ (fun W h => ⟨h.2.1, h.2.2.1⟩) ?_
      rintro ws ⟨y1, y2, y3, y4, y5, y6⟩
      refine with_tabW pp29tab pp29bits (fun HT_ HW_ => ?_)
      have Pa := Aside0.mk y1
      have Xa := Aside0.mk y2
      have Ka := Aside0.mk y3
      have Aa := Aside0.mk y4
      have Ra := Aside0.mk y5
      have Ma := Aside0.mk y6
      clear y1 y2 y3 y4 y5 y6 P8 X8 K8 XA8 R8 ROW8
      refine pure_ (i := 0) (N := some 123) (v := ?_) (a' := ?_) #[true, false, false, false, false, false, false, false, false, false, false, false, false] rfl rfl (any_of HT_.out (by kernel_rfl)) (fun _ _ _ h => h) (Or.inl ⟨by rfl, ?_⟩) ?_ ?_
      rotate_left
      ·intro w'
       go_simp
       with_reducible rfl
      rotate_left
      ·simp only [Act.put, List.setIfInBounds_toArray, List.set_cons_zero, List.set_cons_succ, i64_w, i32_w]
       rfl
      refine take_ (i := 1) (N := some 124) (v := ?_) (a' := ?_) #[true, true, false, false, false, false, false, false, false, false, false, false, false] rfl rfl (take_ofW HT_.out HW_.out (by kernel_rfl)) (fun _ _ _ h => h) (Or.inl ⟨by rfl, ?_⟩) ⟨Xa.out, Ka.out⟩ ?_ ?_
      rotate_left
      ·intro w' hW
       obtain ⟨y0, y1, yf⟩ := cells2m hW.1
       go_simp
       with_reducible rfl
      rotate_left
      ·simp only [Act.put, List.setIfInBounds_toArray, List.set_cons_zero, List.set_cons_succ, i64_w, i32_w]
       rfl
      refine pure_ (i := 3) (N := some 126) (v := ?_) (a' := ?_) #[true, true, false, true, false, false, false, false, false, false, false, false, false] rfl rfl (any_of HT_.out (by kernel_rfl)) (fun _ _ _ h => h) (Or.inl ⟨by rfl, ?_⟩) ?_ ?_
      rotate_left
      ·intro w'
       go_simp
       with_reducible rfl
      rotate_left
      ·simp only [Act.put, List.setIfInBounds_toArray, List.set_cons_zero, List.set_cons_succ, i64_w, i32_w]
       rfl
      refine take_ (i := 4) (N := some 127) (v := ?_) (a' := ?_) #[true, true, false, true, true, false, false, false, false, false, false, false, false] rfl rfl (take_ofW HT_.out HW_.out (by kernel_rfl)) (fun _ _ _ h => h) (Or.inl ⟨by rfl, ?_⟩) ⟨Xa.out, Ka.out⟩ ?_ ?_
      rotate_left
      ·intro w' hW
       obtain ⟨k0, k1, k2, k3, k4, k5, kf⟩ := cells6o hW.2
       go_simp
       with_reducible rfl
      rotate_left
      ·simp only [Act.put, List.setIfInBounds_toArray, List.set_cons_zero, List.set_cons_succ, i64_w, i32_w]
       rfl
      refine join_ (σ := Value × Value × Value × Value × Value × Value × Value) 2 #[true, true, true, true, true, true, true, true, true, true, true, false, false] (fun s_ => [(125, s_.1), (128, s_.2.1), (129, s_.2.2.1), (122, s_.2.2.2.1), (18, s_.2.2.2.2.1), (130, s_.2.2.2.2.2.1), (131, s_.2.2.2.2.2.2)]) (fun (s_ : Value × Value × Value × Value × Value × Value × Value) w' => ∃ AB cB bb TR9, s_.2.2.2.2.1 = .pointer (some ⟨bb, 0, none⟩) ∧ s_.2.2.2.2.2.1 = .agg #[.int .i64 xv, .slice AB xl.length cB] ∧ s_.2.2.2.2.2.2 = .int .i64 xe ∧ Aside0 (PSt w w' d g gm x1' x1' ver l TD7 TR9) ∧ Aside0 (w'.heap[ba]? = some (.cells #[.int .i64 xv, .slice AA xl.length cA] 25)) ∧ Aside0 (Kd.R k45 45 w' w.heap.size (fun k => ¬ TD7 k ∧ ¬ TR9 k) (.slice AA xl.length cA) xl) ∧ Aside0 (Kd.R k65 65 w' w.heap.size (fun k => ¬ TD7 k ∧ ¬ TR9 k) (.slice AB xl.length cB) (xl.map cR)) ∧ Aside0 (w'.heap[bb]? = some (.cells #[.int .i64 0, .slice none 0 0] 32)) ∧ Aside0 (w.heap.size ≤ bb ∧ ¬ TD7 bb ∧ ¬ TR9 bb ∧ bb ≠ gm ∧ bb ≠ ba)) ?_ ?_
      rotate_left
      ·intro hCont
       refine two_ (i := 2) (j := 10) (Ni := some 125) (Nj := some 18) #[true, true, true, true, true, false, false, false, false, false, false, false, false] #[true, true, false, true, true, false, false, false, false, false, true, false, false] rfl rfl rfl rfl (two_of HT_.out (by kernel_rfl)) (by decide) (by decide) (fun K hK => ?_) (fun K hK => ?_)
       ·skip
        refine goes_ Tryz.func11 (by kernel_rfl) rfl #[.agg #[.int .i64 vx, .slice Am l.length cm]] (by rfl) rfl rfl (by (try simp only [List.map_toArray, List.map_cons, List.map_nil]); first | done | rfl) ?_
        refine (to_calls vx l (by have := HLL.out; omega) Am cm ws (Kd.R_reads' Ma.out).2.2 (Kd.R_reads' Ma.out).2.1).mono ?_
        rintro e wb ⟨AT, cT, rfl, hT, bT⟩
        refine ⟨_, rfl, ?_⟩
        have Pb := Aside0.mk (Pa.out.below bT)
        have Xb := Aside0.mk (blk_below Xa.out bT)
        have Kb := Aside0.mk (blk_below Ka.out bT)
        have Ab := Aside0.mk (blk_below Aa.out bT)
        have Rb := Aside0.mk (Kd.R_below Ra.out bT)
        have Mb := Aside0.mk (Kd.R_below Ma.out bT)
        clear Pa Xa Ka Aa Ra Ma
        clear hT bT
        refine hK.out _ _ ⟨Xb.out, Kb.out⟩ (fun _ => ?_)
        clear hK K
        refine norm_ (a' := ?_) ?_ ?_
        rotate_left
        ·show Act.put _ (some 125) _ = _
         simp only [Act.put, List.setIfInBounds_toArray, List.set_cons_zero, List.set_cons_succ, i64_w, i32_w]
         rfl
        refine two_ (i := 5) (j := 10) (Ni := some 128) (Nj := some 18) #[true, true, true, true, true, true, false, false, false, false, false, false, false] #[true, true, true, true, true, false, false, false, false, false, true, false, false] rfl rfl rfl rfl (two_of HT_.out (by kernel_rfl)) (by decide) (by decide) (fun K hK => ?_) (fun K hK => ?_)
        ·skip
         refine goes_ Tryz.func21 (by kernel_rfl) rfl #[.slice A4 sg.length c4] (by rfl) rfl rfl (by (try simp only [List.map_toArray, List.map_cons, List.map_nil]); first | done | rfl) ?_
         refine (segs_calls sg (by have := HZ.out; omega) A4 c4 wb (Kd.C_below HC4.out Pb.out.bel) hc4).mono ?_
         rintro e wc ⟨AS, cS, rfl, hS_, bS⟩
         refine ⟨_, rfl, ?_⟩
         have Pc := Aside0.mk (Pb.out.below bS)
         have Xc := Aside0.mk (blk_below Xb.out bS)
         have Kc := Aside0.mk (blk_below Kb.out bS)
         have Ac := Aside0.mk (blk_below Ab.out bS)
         have Rc := Aside0.mk (Kd.R_below Rb.out bS)
         have Mc := Aside0.mk (Kd.R_below Mb.out bS)
         have Sc := Aside0.mk (Kd.R_mono (ok' := fun k => ¬ TR k) (Kd.R_bound hS_) (fun k hk ht => by have := Pb.out.rR.old k ht; have := hk.2.1; omega))
         clear Pb Xb Kb Ab Rb Mb
         clear hS_ bS
         refine hK.out _ _ ⟨Xc.out, Kc.out⟩ (fun _ => ?_)
         clear hK K
         refine norm_ (a' := ?_) ?_ ?_
         rotate_left
         ·show Act.put _ (some 128) _ = _
          simp only [Act.put, List.setIfInBounds_toArray, List.set_cons_zero, List.set_cons_succ, i64_w, i32_w]
          rfl
         refine two_ (i := 6) (j := 10) (Ni := some 129) (Nj := some 18) #[true, true, true, true, true, true, true, false, false, false, false, false, false] #[true, true, true, true, true, true, false, false, false, false, true, false, false] rfl rfl rfl rfl (two_of HT_.out (by kernel_rfl)) (by decide) (by decide) (fun K hK => ?_) (fun K hK => ?_)
         ·skip
          refine goes_ Tryz.func20 (by kernel_rfl) rfl #[.pointer (some ⟨g, 0, none⟩), .agg #[.int .i64 vx, .slice AT l.length cT], .slice AS sg.length cS] (by rfl) rfl rfl (by (try simp only [List.map_toArray, List.map_cons, List.map_nil]); first | done | rfl) ?_
          refine (ref_Next.calls wc TR g st Pc.out.rR HGD.out vx HVX.out AT l.length cT AS cS sg (fun W f => by have := (Kd.R_reads' (Kd.R_step Sc.out (fun k hk hlt => f.block k hlt hk))).2.2; rwa [List.length_map] at this) (Kd.R_reads' Sc.out).2.1 (by have := HZ.out; omega) HU.out).mono ?_
          rintro e we ⟨AB, cB, TR9, rfl, hR9, s9⟩
          refine ⟨_, rfl, ?_⟩
          rw [hX] at hR9 s9 ⊢
          simp only at hR9 s9 ⊢
          have Pe := Aside0.mk (Pc.out.stepR s9)
          have Xe := Aside0.mk (s9.keeps Xc.out H15.out.2.2.1)
          have Ke := Aside0.mk (s9.keeps Kc.out HBX.out.2.2.1)
          have Ae := Aside0.mk (s9.keeps Ac.out HNB.out)
          have Re := Aside0.mk (Pc.out.rowR s9 Rc.out)
          have Me := Aside0.mk (Pc.out.rowR s9 Mc.out)
          have Be := Aside0.mk (Pc.out.newR hR9)
          clear Pc Xc Kc Ac Rc Mc Sc
          clear hR9 s9
          refine hK.out _ _ ⟨Xe.out, Ke.out⟩ (fun _ => ?_)
          clear hK K
          refine norm_ (a' := ?_) ?_ ?_
          rotate_left
          ·show Act.put _ (some 129) _ = _
           simp only [Act.put, List.setIfInBounds_toArray, List.set_cons_zero, List.set_cons_succ, i64_w, i32_w]
           rfl
          refine pure_ (i := 7) (N := some 122) (v := ?_) (a' := ?_) #[true, true, true, true, true, true, true, true, false, false, false, false, false] rfl rfl (any_of HT_.out (by kernel_rfl)) (fun _ _ _ h => h) (Or.inl ⟨by rfl, ?_⟩) ?_ ?_
          rotate_left
          ·intro w'
           go_simp
           with_reducible rfl
          rotate_left
          ·simp only [Act.put, List.setIfInBounds_toArray, List.set_cons_zero, List.set_cons_succ, i64_w, i32_w]
           rfl
          refine pure_ (i := 8) (N := some 130) (v := ?_) (a' := ?_) #[true, true, true, true, true, true, true, true, true, false, false, false, false] rfl rfl (any_of HT_.out (by kernel_rfl)) (fun _ _ _ h => h) (Or.inl ⟨by rfl, ?_⟩) ?_ ?_
          rotate_left
          ·intro w'
           go_simp
           with_reducible rfl
          rotate_left
          ·simp only [Act.put, List.setIfInBounds_toArray, List.set_cons_zero, List.set_cons_succ, i64_w, i32_w]
           rfl
          refine pure_ (i := 9) (N := some 131) (v := ?_) (a' := ?_) #[true, true, true, true, true, true, true, true, true, true, false, false, false] rfl rfl (any_of HT_.out (by kernel_rfl)) (fun _ _ _ h => h) (Or.inl ⟨by rfl, ?_⟩) ?_ ?_
          rotate_left
          ·intro w'
           go_simp
           with_reducible rfl
          rotate_left
          ·simp only [Act.put, List.setIfInBounds_toArray, List.set_cons_zero, List.set_cons_succ, i64_w, i32_w]
           rfl
          refine one_ (i := 10) (N := some 18) #[true, true, true, true, true, true, true, true, true, true, true, false, false] rfl rfl (one_of HT_.out (by kernel_rfl)) (by decide) (fun K hK => ?_)
          refine box_step (by rfl) (N := 18) (by rfl) (by first | (go_simp; done) | (go_simp; rfl)) ?_
          intro bb hbb wf x7 b7
          have Pf := Aside0.mk (Pe.out.below b7)
          have Xf := Aside0.mk (blk_below Xe.out b7)
          have Kf := Aside0.mk (blk_below Ke.out b7)
          have Af := Aside0.mk (blk_below Ae.out b7)
          have Rf := Aside0.mk (Kd.R_below Re.out b7)
          have Mf := Aside0.mk (Kd.R_below Me.out b7)
          have Bf := Aside0.mk (Kd.R_below Be.out b7)
          have Zf := Aside0.mk x7
          have HBB9 := Aside0.mk (show w.heap.size ≤ bb ∧ ¬ TD7 bb ∧ ¬ TR9 bb ∧ bb ≠ gm ∧ bb ≠ ba from ⟨by have := Pe.out.bel.size; omega, Pe.out.notD (Nat.le_of_eq hbb.symm), Pe.out.notR (Nat.le_of_eq hbb.symm), by have := Pe.out.gmlt; omega, by have := lt_of_block Ae.out; omega⟩)
          clear x7 b7 hbb
          refine hK.out _ _ ⟨Xf.out, Kf.out⟩ (fun _ => ?_)
          clear hK K
          refine norm_ (a' := ?_) ?_ ?_
          rotate_left
          ·show Act.put _ (some 18) _ = _
           simp only [Act.put, List.setIfInBounds_toArray, List.set_cons_zero, List.set_cons_succ, i64_w, i32_w]
           rfl
          have hh := hCont (.agg #[.int .i64 vx, .slice AT l.length cT], .slice AS sg.length cS, .tuple #[.agg #[.int .i64 xv, .slice AB xl.length cB], .int .i64 xe], .tuple #[.agg #[.int .i64 xv, .slice AB xl.length cB], .int .i64 xe], .pointer (some ⟨bb, 0, none⟩), .agg #[.int .i64 xv, .slice AB xl.length cB], .int .i64 xe) _ ⟨AB, cB, bb, TR9, rfl, rfl, rfl, Pf, Af, Rf, Bf, Zf, HBB9⟩
          simp only [putAll, List.foldl_cons, List.foldl_nil, Act.put, List.setIfInBounds_toArray, List.set_cons_zero, List.set_cons_succ] at hh
          exact hh
         ·skip
          refine box_step (by rfl) (N := 18) (by rfl) (by first | (go_simp; done) | (go_simp; rfl)) ?_
          intro bb hbb we x7 b7
          have Pe := Aside0.mk (Pc.out.below b7)
          have Xe := Aside0.mk (blk_below Xc.out b7)
          have Ke := Aside0.mk (blk_below Kc.out b7)
          have Ae := Aside0.mk (blk_below Ac.out b7)
          have Re := Aside0.mk (Kd.R_below Rc.out b7)
          have Me := Aside0.mk (Kd.R_below Mc.out b7)
          have Se := Aside0.mk (Kd.R_below Sc.out b7)
          have Ze := Aside0.mk x7
          have HBB := Aside0.mk (show w.heap.size ≤ bb ∧ ¬ TD7 bb ∧ ¬ TR bb ∧ bb ≠ gm ∧ bb ≠ ba from ⟨by have := Pc.out.bel.size; omega, Pc.out.notD (Nat.le_of_eq hbb.symm), Pc.out.notR (Nat.le_of_eq hbb.symm), by have := Pc.out.gmlt; omega, by have := lt_of_block Ac.out; omega⟩)
          clear Pc Xc Kc Ac Rc Mc Sc
          clear x7 b7 hbb
          refine hK.out _ _ ⟨Xe.out, Ke.out⟩ (fun _ => ?_)
          clear hK K
          refine norm_ (a' := ?_) ?_ ?_
          rotate_left
          ·show Act.put _ (some 18) _ = _
           simp only [Act.put, List.setIfInBounds_toArray, List.set_cons_zero, List.set_cons_succ, i64_w, i32_w]
           rfl
          refine one_ (i := 6) (N := some 129) #[true, true, true, true, true, true, true, false, false, false, true, false, false] rfl rfl (one_of HT_.out (by kernel_rfl)) (by decide) (fun K hK => ?_)
          refine goes_ Tryz.func20 (by kernel_rfl) rfl #[.pointer (some ⟨g, 0, none⟩), .agg #[.int .i64 vx, .slice AT l.length cT], .slice AS sg.length cS] (by rfl) rfl rfl (by (try simp only [List.map_toArray, List.map_cons, List.map_nil]); first | done | rfl) ?_
          refine (ref_Next.calls we TR g st Pe.out.rR HGD.out vx HVX.out AT l.length cT AS cS sg (fun W f => by have := (Kd.R_reads' (Kd.R_step Se.out (fun k hk hlt => f.block k hlt hk))).2.2; rwa [List.length_map] at this) (Kd.R_reads' Se.out).2.1 (by have := HZ.out; omega) HU.out).mono ?_
          rintro e wf ⟨AB, cB, TR9, rfl, hR9, s9⟩
          refine ⟨_, rfl, ?_⟩
          rw [hX] at hR9 s9 ⊢
          simp only at hR9 s9 ⊢
          have Pf := Aside0.mk (Pe.out.stepR s9)
          have Xf := Aside0.mk (s9.keeps Xe.out H15.out.2.2.1)
          have Kf := Aside0.mk (s9.keeps Ke.out HBX.out.2.2.1)
          have Af := Aside0.mk (s9.keeps Ae.out HNB.out)
          have Rf := Aside0.mk (Pe.out.rowR s9 Re.out)
          have Mf := Aside0.mk (Pe.out.rowR s9 Me.out)
          have Bf := Aside0.mk (Pe.out.newR hR9)
          have Zf := Aside0.mk (s9.keeps Ze.out HBB.out.2.2.1)
          have HBB9 := Aside0.mk (show w.heap.size ≤ bb ∧ ¬ TD7 bb ∧ ¬ TR9 bb ∧ bb ≠ gm ∧ bb ≠ ba from ⟨HBB.out.1, HBB.out.2.1, s9.not (lt_of_block Ze.out) HBB.out.2.2.1, HBB.out.2.2.2.1, HBB.out.2.2.2.2⟩)
          clear Pe Xe Ke Ae Re Me Ze Se
          clear hR9 s9
          refine hK.out _ _ ⟨Xf.out, Kf.out⟩ (fun _ => ?_)
          clear hK K
          refine norm_ (a' := ?_) ?_ ?_
          rotate_left
          ·show Act.put _ (some 129) _ = _
           simp only [Act.put, List.setIfInBounds_toArray, List.set_cons_zero, List.set_cons_succ, i64_w, i32_w]
           rfl
          refine pure_ (i := 7) (N := some 122) (v := ?_) (a' := ?_) #[true, true, true, true, true, true, true, true, false, false, true, false, false] rfl rfl (any_of HT_.out (by kernel_rfl)) (fun _ _ _ h => h) (Or.inl ⟨by rfl, ?_⟩) ?_ ?_
          rotate_left
          ·intro w'
           go_simp
           with_reducible rfl
          rotate_left
          ·simp only [Act.put, List.setIfInBounds_toArray, List.set_cons_zero, List.set_cons_succ, i64_w, i32_w]
           rfl
          refine pure_ (i := 8) (N := some 130) (v := ?_) (a' := ?_) #[true, true, true, true, true, true, true, true, true, false, true, false, false] rfl rfl (any_of HT_.out (by kernel_rfl)) (fun _ _ _ h => h) (Or.inl ⟨by rfl, ?_⟩) ?_ ?_
          rotate_left
          ·intro w'
           go_simp
           with_reducible rfl
          rotate_left
          ·simp only [Act.put, List.setIfInBounds_toArray, List.set_cons_zero, List.set_cons_succ, i64_w, i32_w]
           rfl
          refine pure_ (i := 9) (N := some 131) (v := ?_) (a' := ?_) #[true, true, true, true, true, true, true, true, true, true, true, false, false] rfl rfl (any_of HT_.out (by kernel_rfl)) (fun _ _ _ h => h) (Or.inl ⟨by rfl, ?_⟩) ?_ ?_
          rotate_left
          ·intro w'
           go_simp
           with_reducible rfl
          rotate_left
          ·simp only [Act.put, List.setIfInBounds_toArray, List.set_cons_zero, List.set_cons_succ, i64_w, i32_w]
           rfl
          have hh := hCont (.agg #[.int .i64 vx, .slice AT l.length cT], .slice AS sg.length cS, .tuple #[.agg #[.int .i64 xv, .slice AB xl.length cB], .int .i64 xe], .tuple #[.agg #[.int .i64 xv, .slice AB xl.length cB], .int .i64 xe], .pointer (some ⟨bb, 0, none⟩), .agg #[.int .i64 xv, .slice AB xl.length cB], .int .i64 xe) _ ⟨AB, cB, bb, TR9, rfl, rfl, rfl, Pf, Af, Rf, Bf, Zf, HBB9⟩
          simp only [putAll, List.foldl_cons, List.foldl_nil, Act.put, List.setIfInBounds_toArray, List.set_cons_zero, List.set_cons_succ] at hh
          exact hh
        ·skip
         refine box_step (by rfl) (N := 18) (by rfl) (by first | (go_simp; done) | (go_simp; rfl)) ?_
         intro bb hbb wc x7 b7
         have Pc := Aside0.mk (Pb.out.below b7)
         have Xc := Aside0.mk (blk_below Xb.out b7)
         have Kc := Aside0.mk (blk_below Kb.out b7)
         have Ac := Aside0.mk (blk_below Ab.out b7)
         have Rc := Aside0.mk (Kd.R_below Rb.out b7)
         have Mc := Aside0.mk (Kd.R_below Mb.out b7)
         have Zc := Aside0.mk x7
         have HBB := Aside0.mk (show w.heap.size ≤ bb ∧ ¬ TD7 bb ∧ ¬ TR bb ∧ bb ≠ gm ∧ bb ≠ ba from ⟨by have := Pb.out.bel.size; omega, Pb.out.notD (Nat.le_of_eq hbb.symm), Pb.out.notR (Nat.le_of_eq hbb.symm), by have := Pb.out.gmlt; omega, by have := lt_of_block Ab.out; omega⟩)
         clear Pb Xb Kb Ab Rb Mb
         clear x7 b7 hbb
         refine hK.out _ _ ⟨Xc.out, Kc.out⟩ (fun _ => ?_)
         clear hK K
         refine norm_ (a' := ?_) ?_ ?_
         rotate_left
         ·show Act.put _ (some 18) _ = _
          simp only [Act.put, List.setIfInBounds_toArray, List.set_cons_zero, List.set_cons_succ, i64_w, i32_w]
          rfl
         refine one_ (i := 5) (N := some 128) #[true, true, true, true, true, true, false, false, false, false, true, false, false] rfl rfl (one_of HT_.out (by kernel_rfl)) (by decide) (fun K hK => ?_)
         refine goes_ Tryz.func21 (by kernel_rfl) rfl #[.slice A4 sg.length c4] (by rfl) rfl rfl (by (try simp only [List.map_toArray, List.map_cons, List.map_nil]); first | done | rfl) ?_
         refine (segs_calls sg (by have := HZ.out; omega) A4 c4 wc (Kd.C_below HC4.out Pc.out.bel) hc4).mono ?_
         rintro e we ⟨AS, cS, rfl, hS_, bS⟩
         refine ⟨_, rfl, ?_⟩
         have Pe := Aside0.mk (Pc.out.below bS)
         have Xe := Aside0.mk (blk_below Xc.out bS)
         have Ke := Aside0.mk (blk_below Kc.out bS)
         have Ae := Aside0.mk (blk_below Ac.out bS)
         have Re := Aside0.mk (Kd.R_below Rc.out bS)
         have Me := Aside0.mk (Kd.R_below Mc.out bS)
         have Ze := Aside0.mk (blk_below Zc.out bS)
         have Se := Aside0.mk (Kd.R_mono (ok' := fun k => ¬ TR k) (Kd.R_bound hS_) (fun k hk ht => by have := Pc.out.rR.old k ht; have := hk.2.1; omega))
         clear Pc Xc Kc Ac Rc Mc Zc
         clear hS_ bS
         refine hK.out _ _ ⟨Xe.out, Ke.out⟩ (fun _ => ?_)
         clear hK K
         refine norm_ (a' := ?_) ?_ ?_
         rotate_left
         ·show Act.put _ (some 128) _ = _
          simp only [Act.put, List.setIfInBounds_toArray, List.set_cons_zero, List.set_cons_succ, i64_w, i32_w]
          rfl
         refine one_ (i := 6) (N := some 129) #[true, true, true, true, true, true, true, false, false, false, true, false, false] rfl rfl (one_of HT_.out (by kernel_rfl)) (by decide) (fun K hK => ?_)
         refine goes_ Tryz.func20 (by kernel_rfl) rfl #[.pointer (some ⟨g, 0, none⟩), .agg #[.int .i64 vx, .slice AT l.length cT], .slice AS sg.length cS] (by rfl) rfl rfl (by (try simp only [List.map_toArray, List.map_cons, List.map_nil]); first | done | rfl) ?_
         refine (ref_Next.calls we TR g st Pe.out.rR HGD.out vx HVX.out AT l.length cT AS cS sg (fun W f => by have := (Kd.R_reads' (Kd.R_step Se.out (fun k hk hlt => f.block k hlt hk))).2.2; rwa [List.length_map] at this) (Kd.R_reads' Se.out).2.1 (by have := HZ.out; omega) HU.out).mono ?_
         rintro e wf ⟨AB, cB, TR9, rfl, hR9, s9⟩
         refine ⟨_, rfl, ?_⟩
         rw [hX] at hR9 s9 ⊢
         simp only at hR9 s9 ⊢
         have Pf := Aside0.mk (Pe.out.stepR s9)
         have Xf := Aside0.mk (s9.keeps Xe.out H15.out.2.2.1)
         have Kf := Aside0.mk (s9.keeps Ke.out HBX.out.2.2.1)
         have Af := Aside0.mk (s9.keeps Ae.out HNB.out)
         have Rf := Aside0.mk (Pe.out.rowR s9 Re.out)
         have Mf := Aside0.mk (Pe.out.rowR s9 Me.out)
         have Bf := Aside0.mk (Pe.out.newR hR9)
         have Zf := Aside0.mk (s9.keeps Ze.out HBB.out.2.2.1)
         have HBB9 := Aside0.mk (show w.heap.size ≤ bb ∧ ¬ TD7 bb ∧ ¬ TR9 bb ∧ bb ≠ gm ∧ bb ≠ ba from ⟨HBB.out.1, HBB.out.2.1, s9.not (lt_of_block Ze.out) HBB.out.2.2.1, HBB.out.2.2.2.1, HBB.out.2.2.2.2⟩)
         clear Pe Xe Ke Ae Re Me Ze Se
         clear hR9 s9
         refine hK.out _ _ ⟨Xf.out, Kf.out⟩ (fun _ => ?_)
         clear hK K
         refine norm_ (a' := ?_) ?_ ?_
         rotate_left
         ·show Act.put _ (some 129) _ = _
          simp only [Act.put, List.setIfInBounds_toArray, List.set_cons_zero, List.set_cons_succ, i64_w, i32_w]
          rfl
         refine pure_ (i := 7) (N := some 122) (v := ?_) (a' := ?_) #[true, true, true, true, true, true, true, true, false, false, true, false, false] rfl rfl (any_of HT_.out (by kernel_rfl)) (fun _ _ _ h => h) (Or.inl ⟨by rfl, ?_⟩) ?_ ?_
         rotate_left
         ·intro w'
          go_simp
          with_reducible rfl
         rotate_left
         ·simp only [Act.put, List.setIfInBounds_toArray, List.set_cons_zero, List.set_cons_succ, i64_w, i32_w]
          rfl
         refine pure_ (i := 8) (N := some 130) (v := ?_) (a' := ?_) #[true, true, true, true, true, true, true, true, true, false, true, false, false] rfl rfl (any_of HT_.out (by kernel_rfl)) (fun _ _ _ h => h) (Or.inl ⟨by rfl, ?_⟩) ?_ ?_
         rotate_left
         ·intro w'
          go_simp
          with_reducible rfl
         rotate_left
         ·simp only [Act.put, List.setIfInBounds_toArray, List.set_cons_zero, List.set_cons_succ, i64_w, i32_w]
          rfl
         refine pure_ (i := 9) (N := some 131) (v := ?_) (a' := ?_) #[true, true, true, true, true, true, true, true, true, true, true, false, false] rfl rfl (any_of HT_.out (by kernel_rfl)) (fun _ _ _ h => h) (Or.inl ⟨by rfl, ?_⟩) ?_ ?_
         rotate_left
         ·intro w'
          go_simp
          with_reducible rfl
         rotate_left
         ·simp only [Act.put, List.setIfInBounds_toArray, List.set_cons_zero, List.set_cons_succ, i64_w, i32_w]
          rfl
         have hh := hCont (.agg #[.int .i64 vx, .slice AT l.length cT], .slice AS sg.length cS, .tuple #[.agg #[.int .i64 xv, .slice AB xl.length cB], .int .i64 xe], .tuple #[.agg #[.int .i64 xv, .slice AB xl.length cB], .int .i64 xe], .pointer (some ⟨bb, 0, none⟩), .agg #[.int .i64 xv, .slice AB xl.length cB], .int .i64 xe) _ ⟨AB, cB, bb, TR9, rfl, rfl, rfl, Pf, Af, Rf, Bf, Zf, HBB9⟩
         simp only [putAll, List.foldl_cons, List.foldl_nil, Act.put, List.setIfInBounds_toArray, List.set_cons_zero, List.set_cons_succ] at hh
         exact hh
       ·skip
        refine box_step (by rfl) (N := 18) (by rfl) (by first | (go_simp; done) | (go_simp; rfl)) ?_
        intro bb hbb wb x7 b7
        have Pb := Aside0.mk (Pa.out.below b7)
        have Xb := Aside0.mk (blk_below Xa.out b7)
        have Kb := Aside0.mk (blk_below Ka.out b7)
        have Ab := Aside0.mk (blk_below Aa.out b7)
        have Rb := Aside0.mk (Kd.R_below Ra.out b7)
        have Mb := Aside0.mk (Kd.R_below Ma.out b7)
        have Zb := Aside0.mk x7
        have HBB := Aside0.mk (show w.heap.size ≤ bb ∧ ¬ TD7 bb ∧ ¬ TR bb ∧ bb ≠ gm ∧ bb ≠ ba from ⟨by have := Pa.out.bel.size; omega, Pa.out.notD (Nat.le_of_eq hbb.symm), Pa.out.notR (Nat.le_of_eq hbb.symm), by have := Pa.out.gmlt; omega, by have := lt_of_block Aa.out; omega⟩)
        clear Pa Xa Ka Aa Ra Ma
        clear x7 b7 hbb
        refine hK.out _ _ ⟨Xb.out, Kb.out⟩ (fun _ => ?_)
        clear hK K
        refine norm_ (a' := ?_) ?_ ?_
        rotate_left
        ·show Act.put _ (some 18) _ = _
         simp only [Act.put, List.setIfInBounds_toArray, List.set_cons_zero, List.set_cons_succ, i64_w, i32_w]
         rfl
        refine one_ (i := 2) (N := some 125) #[true, true, true, true, true, false, false, false, false, false, true, false, false] rfl rfl (one_of HT_.out (by kernel_rfl)) (by decide) (fun K hK => ?_)
        refine goes_ Tryz.func11 (by kernel_rfl) rfl #[.agg #[.int .i64 vx, .slice Am l.length cm]] (by rfl) rfl rfl (by (try simp only [List.map_toArray, List.map_cons, List.map_nil]); first | done | rfl) ?_
        refine (to_calls vx l (by have := HLL.out; omega) Am cm wb (Kd.R_reads' Mb.out).2.2 (Kd.R_reads' Mb.out).2.1).mono ?_
        rintro e wc ⟨AT, cT, rfl, hT, bT⟩
        refine ⟨_, rfl, ?_⟩
        have Pc := Aside0.mk (Pb.out.below bT)
        have Xc := Aside0.mk (blk_below Xb.out bT)
        have Kc := Aside0.mk (blk_below Kb.out bT)
        have Ac := Aside0.mk (blk_below Ab.out bT)
        have Rc := Aside0.mk (Kd.R_below Rb.out bT)
        have Mc := Aside0.mk (Kd.R_below Mb.out bT)
        have Zc := Aside0.mk (blk_below Zb.out bT)
        clear Pb Xb Kb Ab Rb Mb Zb
        clear hT bT
        refine hK.out _ _ ⟨Xc.out, Kc.out⟩ (fun _ => ?_)
        clear hK K
        refine norm_ (a' := ?_) ?_ ?_
        rotate_left
        ·show Act.put _ (some 125) _ = _
         simp only [Act.put, List.setIfInBounds_toArray, List.set_cons_zero, List.set_cons_succ, i64_w, i32_w]
         rfl
        refine one_ (i := 5) (N := some 128) #[true, true, true, true, true, true, false, false, false, false, true, false, false] rfl rfl (one_of HT_.out (by kernel_rfl)) (by decide) (fun K hK => ?_)
        refine goes_ Tryz.func21 (by kernel_rfl) rfl #[.slice A4 sg.length c4] (by rfl) rfl rfl (by (try simp only [List.map_toArray, List.map_cons, List.map_nil]); first | done | rfl) ?_
        refine (segs_calls sg (by have := HZ.out; omega) A4 c4 wc (Kd.C_below HC4.out Pc.out.bel) hc4).mono ?_
        rintro e we ⟨AS, cS, rfl, hS_, bS⟩
        refine ⟨_, rfl, ?_⟩
        have Pe := Aside0.mk (Pc.out.below bS)
        have Xe := Aside0.mk (blk_below Xc.out bS)
        have Ke := Aside0.mk (blk_below Kc.out bS)
        have Ae := Aside0.mk (blk_below Ac.out bS)
        have Re := Aside0.mk (Kd.R_below Rc.out bS)
        have Me := Aside0.mk (Kd.R_below Mc.out bS)
        have Ze := Aside0.mk (blk_below Zc.out bS)
        have Se := Aside0.mk (Kd.R_mono (ok' := fun k => ¬ TR k) (Kd.R_bound hS_) (fun k hk ht => by have := Pc.out.rR.old k ht; have := hk.2.1; omega))
        clear Pc Xc Kc Ac Rc Mc Zc
        clear hS_ bS
        refine hK.out _ _ ⟨Xe.out, Ke.out⟩ (fun _ => ?_)
        clear hK K
        refine norm_ (a' := ?_) ?_ ?_
        rotate_left
        ·show Act.put _ (some 128) _ = _
         simp only [Act.put, List.setIfInBounds_toArray, List.set_cons_zero, List.set_cons_succ, i64_w, i32_w]
         rfl
        refine one_ (i := 6) (N := some 129) #[true, true, true, true, true, true, true, false, false, false, true, false, false] rfl rfl (one_of HT_.out (by kernel_rfl)) (by decide) (fun K hK => ?_)
        refine goes_ Tryz.func20 (by kernel_rfl) rfl #[.pointer (some ⟨g, 0, none⟩), .agg #[.int .i64 vx, .slice AT l.length cT], .slice AS sg.length cS] (by rfl) rfl rfl (by (try simp only [List.map_toArray, List.map_cons, List.map_nil]); first | done | rfl) ?_
        refine (ref_Next.calls we TR g st Pe.out.rR HGD.out vx HVX.out AT l.length cT AS cS sg (fun W f => by have := (Kd.R_reads' (Kd.R_step Se.out (fun k hk hlt => f.block k hlt hk))).2.2; rwa [List.length_map] at this) (Kd.R_reads' Se.out).2.1 (by have := HZ.out; omega) HU.out).mono ?_
        rintro e wf ⟨AB, cB, TR9, rfl, hR9, s9⟩
        refine ⟨_, rfl, ?_⟩
        rw [hX] at hR9 s9 ⊢
        simp only at hR9 s9 ⊢
        have Pf := Aside0.mk (Pe.out.stepR s9)
        have Xf := Aside0.mk (s9.keeps Xe.out H15.out.2.2.1)
        have Kf := Aside0.mk (s9.keeps Ke.out HBX.out.2.2.1)
        have Af := Aside0.mk (s9.keeps Ae.out HNB.out)
        have Rf := Aside0.mk (Pe.out.rowR s9 Re.out)
        have Mf := Aside0.mk (Pe.out.rowR s9 Me.out)
        have Bf := Aside0.mk (Pe.out.newR hR9)
        have Zf := Aside0.mk (s9.keeps Ze.out HBB.out.2.2.1)
        have HBB9 := Aside0.mk (show w.heap.size ≤ bb ∧ ¬ TD7 bb ∧ ¬ TR9 bb ∧ bb ≠ gm ∧ bb ≠ ba from ⟨HBB.out.1, HBB.out.2.1, s9.not (lt_of_block Ze.out) HBB.out.2.2.1, HBB.out.2.2.2.1, HBB.out.2.2.2.2⟩)
        clear Pe Xe Ke Ae Re Me Ze Se
        clear hR9 s9
        refine hK.out _ _ ⟨Xf.out, Kf.out⟩ (fun _ => ?_)
        clear hK K
        refine norm_ (a' := ?_) ?_ ?_
        rotate_left
        ·show Act.put _ (some 129) _ = _
         simp only [Act.put, List.setIfInBounds_toArray, List.set_cons_zero, List.set_cons_succ, i64_w, i32_w]
         rfl
        refine pure_ (i := 7) (N := some 122) (v := ?_) (a' := ?_) #[true, true, true, true, true, true, true, true, false, false, true, false, false] rfl rfl (any_of HT_.out (by kernel_rfl)) (fun _ _ _ h => h) (Or.inl ⟨by rfl, ?_⟩) ?_ ?_
        rotate_left
        ·intro w'
         go_simp
         with_reducible rfl
        rotate_left
        ·simp only [Act.put, List.setIfInBounds_toArray, List.set_cons_zero, List.set_cons_succ, i64_w, i32_w]
         rfl
        refine pure_ (i := 8) (N := some 130) (v := ?_) (a' := ?_) #[true, true, true, true, true, true, true, true, true, false, true, false, false] rfl rfl (any_of HT_.out (by kernel_rfl)) (fun _ _ _ h => h) (Or.inl ⟨by rfl, ?_⟩) ?_ ?_
        rotate_left
        ·intro w'
         go_simp
         with_reducible rfl
        rotate_left
        ·simp only [Act.put, List.setIfInBounds_toArray, List.set_cons_zero, List.set_cons_succ, i64_w, i32_w]
         rfl
        refine pure_ (i := 9) (N := some 131) (v := ?_) (a' := ?_) #[true, true, true, true, true, true, true, true, true, true, true, false, false] rfl rfl (any_of HT_.out (by kernel_rfl)) (fun _ _ _ h => h) (Or.inl ⟨by rfl, ?_⟩) ?_ ?_
        rotate_left
        ·intro w'
         go_simp
         with_reducible rfl
        rotate_left
        ·simp only [Act.put, List.setIfInBounds_toArray, List.set_cons_zero, List.set_cons_succ, i64_w, i32_w]
         rfl
        have hh := hCont (.agg #[.int .i64 vx, .slice AT l.length cT], .slice AS sg.length cS, .tuple #[.agg #[.int .i64 xv, .slice AB xl.length cB], .int .i64 xe], .tuple #[.agg #[.int .i64 xv, .slice AB xl.length cB], .int .i64 xe], .pointer (some ⟨bb, 0, none⟩), .agg #[.int .i64 xv, .slice AB xl.length cB], .int .i64 xe) _ ⟨AB, cB, bb, TR9, rfl, rfl, rfl, Pf, Af, Rf, Bf, Zf, HBB9⟩
        simp only [putAll, List.foldl_cons, List.foldl_nil, Act.put, List.setIfInBounds_toArray, List.set_cons_zero, List.set_cons_succ] at hh
        exact hh
      rintro ⟨v125, v128, v129, v122, v18, v130, v131⟩ wj ⟨AB, cB, bb, TR9, hv1, hv2, hv3, PJ, AJ, RJ, BJ, ZJ, HBB⟩
      simp only at hv1 hv2 hv3
      subst hv1 hv2 hv3
      refine norm_ (a' := ?_) ?_ ?_
      rotate_left
      ·simp only [putAll, List.foldl_cons, List.foldl_nil, Act.put, List.setIfInBounds_toArray, List.set_cons_zero, List.set_cons_succ]
       rfl
      refine last_ (i := 11) (N := none) #[true, true, true, true, true, true, true, true, true, true, true, true, false] rfl rfl (one_of HT_.out (by kernel_rfl)) (by decide) (fun K hK => ?_)
      obtain ⟨e0, e1', er⟩ := cells2m ZJ.out
      refine skip_ (w1 := ?_) (by rfl) rfl ?_ ?_
      rotate_left
      ·go_simp
       rfl
      refine hK.out _ _ ?_
      clear hK K
      refine pure_ (i := 12) (N := some 19) (v := ?_) (a' := ?_) #[true, true, true, true, true, true, true, true, true, true, true, true, true] rfl rfl (any_of HT_.out (by kernel_rfl)) (fun _ _ _ h => h) (Or.inl ⟨by rfl, ?_⟩) ?_ ?_
      rotate_left
      ·intro w'
       go_simp
       with_reducible rfl
      rotate_left
      ·simp only [Act.put, List.setIfInBounds_toArray, List.set_cons_zero, List.set_cons_succ, i64_w, i32_w]
       rfl
      refine done_ (done_of HT_.out (by kernel_rfl)) ?_
      clear e0 e1' er
      have fB := Aside0.mk (show Frm (fun i => i = bb) wj ((wj.setCell ⟨bb, 0, none⟩ (.int .i64 xv)).setCell ⟨bb, 1, none⟩ (.slice AB xl.length cB)) from ((Frm.refl (fun i => i = bb) wj).setCell (Or.inl rfl) _).setCell (Or.inl rfl) _)
      have P9 := Aside0.mk (show PSt w ((wj.setCell ⟨bb, 0, none⟩ (.int .i64 xv)).setCell ⟨bb, 1, none⟩ (.slice AB xl.length cB)) d g gm x1' x1' ver l TD7 TR9 from PJ.out.far ZJ.out (by decide) HBB.out.1 HBB.out.2.1 HBB.out.2.2.1 HBB.out.2.2.2.1 fB.out)
      have XA := Aside0.mk (show ((wj.setCell ⟨bb, 0, none⟩ (.int .i64 xv)).setCell ⟨bb, 1, none⟩ (.slice AB xl.length cB)).heap[ba]? = some (.cells #[.int .i64 xv, .slice AA xl.length cA] 25) from fB.out.keeps AJ.out (fun e => HBB.out.2.2.2.2 e.symm))
      have XB := Aside0.mk (show ((wj.setCell ⟨bb, 0, none⟩ (.int .i64 xv)).setCell ⟨bb, 1, none⟩ (.slice AB xl.length cB)).heap[bb]? = some (.cells #[.int .i64 xv, .slice AB xl.length cB] 32) from two_put ZJ.out _ _)
      have RA := Aside0.mk (show Kd.R k45 45 ((wj.setCell ⟨bb, 0, none⟩ (.int .i64 xv)).setCell ⟨bb, 1, none⟩ (.slice AB xl.length cB)) w.heap.size (fun k => ¬ TD7 k ∧ ¬ TR9 k) (.slice AA xl.length cA) xl from Kd.R_mono (Kd.R_step (Kd.R_types RJ.out ZJ.out (by decide)) (fun k hk hlt => fB.out.block k hlt hk.2)) (fun _ h => h.1))
      have RB := Aside0.mk (show Kd.R k65 65 ((wj.setCell ⟨bb, 0, none⟩ (.int .i64 xv)).setCell ⟨bb, 1, none⟩ (.slice AB xl.length cB)) w.heap.size (fun k => ¬ TD7 k ∧ ¬ TR9 k) (.slice AB xl.length cB) (xl.map cR) from Kd.R_mono (Kd.R_step (Kd.R_types BJ.out ZJ.out (by decide)) (fun k hk hlt => fB.out.block k hlt hk.2)) (fun _ h => h.1))
      generalize ((wj.setCell ⟨bb, 0, none⟩ (.int .i64 xv)).setCell ⟨bb, 1, none⟩ (.slice AB xl.length cB)) = w9 at P9 XA XB RA RB ⊢
      clear fB PJ AJ RJ BJ ZJ HBB
      have CA := Aside0.mk (Kd.R_reads' RA.out).2.2
      have HcA := Aside0.mk (Kd.R_reads' RA.out).2.1
      have KN := Aside0.mk (show KeepP (i + 1) x1' xv xl from HK.out.put (k := mnf (wrap64 (vx + 1))) (b := (bytesR (wrap64 (vx + 1)) sg).1) (by have := nameB_size 109 (wrap64 (vx + 1)) 1; show (nameB 109 (wrap64 (vx + 1)) 1).size ≤ 100; omega) (bytesR_len _ _ HZ.out.1) HXM.out HXO.out.1 HXO.out.2)
      have KO := Aside0.mk (show KeepP (i + 1) x1' ver l from HK.out.put (k := mnf (wrap64 (vx + 1))) (b := (bytesR (wrap64 (vx + 1)) sg).1) (by have := nameB_size 109 (wrap64 (vx + 1)) 1; show (nameB 109 (wrap64 (vx + 1)) 1).size ≤ 100; omega) (bytesR_len _ _ HZ.out.1) HXM.out HK.out.ln HK.out.rng)
      clear hX
      go_wp2_with fail
      refine region_draw (n := 5) (S := fun W => Below w9.heap.size w9 W) (ds := []) #[false, false, false, false, false] (by kernel_rfl) rfl rfl (fun W => Below w9.heap.size w9 W) (by exact below_drew1 (Below.refl _ _)) (fun W h => h) ?_
      rintro ws hws
      refine with_tabW pp30tab pp30bits (fun HT_ HW_ => ?_)
      have BS := Aside0.mk hws
      clear hws
      refine take_ (i := 0) (N := some 132) (v := ?_) (a' := ?_) #[true, false, false, false, false] rfl rfl (take_ofW HT_.out HW_.out (by kernel_rfl)) (fun _ _ _ h => h) (Or.inl ⟨by rfl, ?_⟩) BS.out ?_ ?_
      rotate_left
      ·intro w' hW
       obtain ⟨m0, m1, mf⟩ := cells2m (blk_below XA.out hW)
       go_simp
       with_reducible rfl
      rotate_left
      ·simp only [Act.put, List.setIfInBounds_toArray, List.set_cons_zero, List.set_cons_succ, i64_w, i32_w]
       rfl
      refine take_ (i := 2) (N := some 134) (v := ?_) (a' := ?_) #[true, false, true, false, false] rfl rfl (take_ofW HT_.out HW_.out (by kernel_rfl)) (fun _ _ _ h => h) (Or.inl ⟨by rfl, ?_⟩) BS.out ?_ ?_
      rotate_left
      ·intro w' hW
       obtain ⟨m0, m1, mf⟩ := cells2m (blk_below XB.out hW)
       go_simp
       with_reducible rfl
      rotate_left
      ·simp only [Act.put, List.setIfInBounds_toArray, List.set_cons_zero, List.set_cons_succ, i64_w, i32_w]
       rfl
      refine one_ (i := 1) (N := some 133) #[true, true, true, false, false] rfl rfl (one_of HT_.out (by kernel_rfl)) (by decide) (fun K hK => ?_)
      refine goes_ Tryz.func11 (by kernel_rfl) rfl #[.agg #[.int .i64 xv, .slice AA xl.length cA]] (by rfl) rfl rfl (by (try simp only [List.map_toArray, List.map_cons, List.map_nil]); first | done | rfl) ?_
      refine (to_calls xv xl (by have := HLN.out; omega) AA cA ws (Kd.C_below CA.out BS.out) HcA.out).mono ?_
      rintro e wt ⟨AT, cT, rfl, hT, bT⟩
      refine ⟨_, rfl, ?_⟩
      have RT := Aside0.mk hT
      have BT := Aside0.mk (BS.out.trans (bT.mono BS.out.size))
      clear hT bT
      refine hK.out _ _ BT.out (fun _ => ?_)
      clear hK K
      refine norm_ (a' := ?_) ?_ ?_
      rotate_left
      ·show Act.put _ (some 133) _ = _
       simp only [Act.put, List.setIfInBounds_toArray, List.set_cons_zero, List.set_cons_succ, i64_w, i32_w]
       rfl
      refine one_ (i := 3) (N := some 135) #[true, true, true, true, false] rfl rfl (one_of HT_.out (by kernel_rfl)) (by decide) (fun K hK => ?_)
      refine goes_ Tryz.func19 (by kernel_rfl) rfl #[.agg #[.int .i64 xv, .slice AT xl.length cT], .agg #[.int .i64 xv, .slice AB xl.length cB]] (by rfl) rfl rfl (by (try simp only [List.map_toArray, List.map_cons, List.map_nil]); first | done | rfl) ?_
      refine (same_calls xv xv (xl.map cR) (xl.map cR) (by rw [List.length_map]; have := HLN.out; omega) (by rw [List.length_map]; have := HLN.out; omega) AT AB xl.length xl.length cT cB wt _ _ _ _ RT.out (Kd.R_below RB.out BT.out)).mono ?_
      rintro e wu ⟨rfl, bU⟩
      refine ⟨_, rfl, ?_⟩
      rw [decide_eq_true (show xv = xv ∧ xl.map cR = xl.map cR from ⟨rfl, rfl⟩)]
      have BU := Aside0.mk (BT.out.trans (bU.mono BT.out.size))
      clear bU RT
      refine hK.out _ _ BU.out (fun _ => ?_)
      clear hK K
      refine norm_ (a' := ?_) ?_ ?_
      rotate_left
      ·show Act.put _ (some 135) _ = _
       simp only [Act.put, List.setIfInBounds_toArray, List.set_cons_zero, List.set_cons_succ, i64_w, i32_w]
       rfl
      refine pure_ (i := 4) (N := some 20) (v := ?_) (a' := ?_) #[true, true, true, true, true] rfl rfl (any_of HT_.out (by kernel_rfl)) (fun _ _ _ h => h) (Or.inl ⟨by rfl, ?_⟩) ?_ ?_
      rotate_left
      ·intro w'
       go_simp
       with_reducible rfl
      rotate_left
      ·simp only [Act.put, List.setIfInBounds_toArray, List.set_cons_zero, List.set_cons_succ, i64_w, i32_w]
       rfl
      refine done_ (done_of HT_.out (by kernel_rfl)) ?_
      have PU := Aside0.mk (P9.out.below BU.out)
      have XAU := Aside0.mk (blk_below XA.out BU.out)
      have RAU := Aside0.mk (Kd.R_below RA.out BU.out)
      have hee : (xe == xe) = true := beq_self_eq_true _
      clear XA XB RA RB CA BU BT BS
      obtain ⟨Am, cm, hm, _⟩ := PU.out.man
      obtain ⟨m0, m1, mf⟩ := cells2m hm
      obtain ⟨y0, y1, yf⟩ := cells2m XAU.out
      clear hm
      by_cases he0 : xe = 0
      ·subst he0
       have PV := Aside0.mk (PU.out.setM xv AA cA xl RAU.out)
       go_wp2_with fail
       go_meet
       case rel => exact ⟨by first | rfl | simp, ⟨_, _, _, _, _, PV.out, KN.out⟩⟩
      ·have he1 : (xe == 0) = false := beq_eq_false_iff_ne.2 he0
       go_wp2_with fail
       go_meet
       case rel => exact ⟨by first | rfl | simp, ⟨_, _, _, _, _, PU.out, KO.out⟩⟩
   obtain ⟨z1, z2⟩ := (Bool.or_eq_false_iff.1 z12)
   rcases Bool.eq_false_or_eq_true (x0 == 3) with z3 | z3
   ·as_aux_lemma =>
    obtain ⟨k0, k1, k2, k3, k4, k5, kf⟩ := cells6o K4.out
    go_wp2_with fail
    obtain ⟨X, hX⟩ : ∃ X, pubUpload st x1 x3 = X := ⟨_, rfl⟩
    have KO := Aside0.mk (show KeepP (i + 1) X.1 ver l from HK.out.put (k := obj x1) (b := x3) (by have := nameB_size 111 x1 0; show (nameB 111 x1 0).size ≤ 100; omega) (by have := HZ.out; omega) (hX ▸ up_mP st x1 x3) HK.out.ln HK.out.rng)
    refine (pub_Upload.calls w4 TD d st P4.out.dR (fun k hk => (P4.out.hD k hk).2) (P4.out.laid HL.out) x1 HO.out.1 x3 (by have := HZ.out; omega)).mono ?_
    rintro e w5 ⟨rfl, TD5, s5⟩
    rw [hX] at s5 ⊢
    have P5 := Aside0.mk (P4.out.stepD s5)
    have K5 := Aside0.mk (s5.keeps K4.out HBX.out.2.1)
    clear s5 K4 k0 k1 k2 k3 k4 k5 kf
    obtain ⟨x1', ⟨s0, s1, s2⟩, xe⟩ := X
    simp only at P5 KO ⊢
    go_upto_region 36 with (fail)
    have P6 := Aside0.mk (P5.out.below (newTwo w5 (.cells #[.int .i64 s0, .int .i64 s1, .int .u32 s2] 45)))
    have XA6 := Aside0.mk (blk_new w5 (.cells #[.int .i64 s0, .int .i64 s1, .int .u32 s2] 45))
    have K6 := Aside0.mk (blk_alloc K5.out (.cells #[.int .i64 s0, .int .i64 s1, .int .u32 s2] 45))
    have HNB := Aside0.mk (P5.out.notR (Nat.le_refl w5.heap.size))
    obtain ⟨ba, hba⟩ : ∃ b, w5.heap.size = b := ⟨_, rfl⟩
    rw [hba] at XA6 HNB ⊢
    generalize w5.alloc (.cells #[.int .i64 s0, .int .i64 s1, .int .u32 s2] 45) = w6 at P6 XA6 K6 ⊢
    clear hba P5 K5
    obtain ⟨k0, k1, k2, k3, k4, k5, kf⟩ := cells6o K6.out
    go_wp2_with fail
    refine (ref_Upload.calls w6 TR g st P6.out.rR HGD.out x1 HO.out.1 x3 (by have := HZ.out; omega)).mono ?_
    rintro e w7 ⟨rfl, TR7, s7⟩
    rw [hX] at s7 ⊢
    simp only at s7 ⊢
    have P7 := Aside0.mk (P6.out.stepR s7)
    have XA7 := Aside0.mk (s7.keeps XA6.out HNB.out)
    clear s7 P6 XA6 HNB hX K6 k0 k1 k2 k3 k4 k5 kf
    go_upto_region 37 with (fail)
    have P8 := Aside0.mk (P7.out.below (newTwo w7 (.cells #[.int .i64 s0, .int .i64 s1, .int .u32 s2] 65)))
    obtain ⟨a0, a1, a2, af⟩ := cells3f (blk_alloc XA7.out (.cells #[.int .i64 s0, .int .i64 s1, .int .u32 s2] 65))
    obtain ⟨b0, b1, b2, bf⟩ := cells3f (blk_new w7 (.cells #[.int .i64 s0, .int .i64 s1, .int .u32 s2] 65))
    have hee : (xe == xe) = true := beq_self_eq_true _
    have he0 : (s0 == s0) = true := beq_self_eq_true _
    have he1 : (s1 == s1) = true := beq_self_eq_true _
    have he2 : (s2 == s2) = true := beq_self_eq_true _
    go_wp2_with fail
    go_meet
    case rel => exact ⟨by first | rfl | simp, ⟨_, _, _, _, _, P8.out, KO.out⟩⟩
   rcases Bool.eq_false_or_eq_true (x0 == 4) with z4 | z4
   ·as_aux_lemma =>
    obtain ⟨k0, k1, k2, k3, k4, k5, kf⟩ := cells6o K4.out
    by_cases hs0 : sg.length = 0
    ·have ds : decide ((0 : Int) < (sg.length : Int)) = false := decide_eq_false (by omega)
     have KO := Aside0.mk (show KeepP (i + 1) st ver l from HK.out.same rfl HK.out.ln HK.out.rng)
     go_wp2_with fail
     go_meet
     case rel => exact ⟨by first | rfl | simp, ⟨_, _, _, _, _, P4.out, KO.out⟩⟩
    ·have ds : decide ((0 : Int) < (sg.length : Int)) = true := decide_eq_true (by omega)
     have hlt0 : 0 < sg.length := by omega
     have j1 : (0 : Int) < (sg.length : Int) := by omega
     obtain ⟨ad4, rfl, c0, c1', c2⟩ := C_sgAt (Kd.C_below HC4.out P4.out.bel) hlt0
     have HX0 := Aside0.mk (HO.out.2.1 sg[0] (List.getElem_mem hlt0))
     have e6 := addr_zero ad4
     simp only [Nat.zero_mul] at c0 c1' c2
     rw [e6] at c0 c1' c2
     obtain ⟨s, hs⟩ : ∃ s, sg[0] = s := ⟨_, rfl⟩
     rw [hs] at c0 c1' c2 HX0
     have HSG := Aside0.mk hs
     clear hs e6
     obtain ⟨s0, s1, s2⟩ := s
     simp only at c0 c1' c2
     obtain ⟨X, hX⟩ : ∃ X, pubFetch st ⟨s0, s1, s2⟩ = X := ⟨_, rfl⟩
     have KO := Aside0.mk (show KeepP (i + 1) X.1 ver l from HK.out.same (hX ▸ fetch_mP st _) HK.out.ln HK.out.rng)
     go_wp2_with fail
     refine (pub_Fetch.calls w4 TD d st P4.out.dR (fun k hk => (P4.out.hD k hk).2) (P4.out.laid HL.out) ⟨s0, s1, s2⟩ HX0.out.2 (fun k b hb => by have := HK.out.fit.look k b hb; omega)).mono ?_
     rintro e w5 ⟨rfl, TD5, s5⟩
     rw [hX] at s5 ⊢
     have P5 := Aside0.mk (P4.out.stepD s5)
     have K5 := Aside0.mk (s5.keeps K4.out HBX.out.2.1)
     clear s5 K4 k0 k1 k2 k3 k4 k5 kf c0 c1' c2
     obtain ⟨x1', xb, xe⟩ := X
     simp only at P5 KO ⊢
     obtain ⟨k0, k1, k2, k3, k4, k5, kf⟩ := cells6o K5.out
     go_wp2_with fail
     refine (segs_calls sg (by have := HZ.out; omega) (some ad4) c4 w5 (Kd.C_below HC4.out P5.out.bel) hc4).mono ?_
     rintro e w6 ⟨A6, c6, rfl, hR6, b6⟩
     have P6 := Aside0.mk (P5.out.below b6)
     clear b6 P5 K5 k0 k1 k2 k3 k4 k5 kf
     obtain ⟨ad6, rfl, c0, c1', c2⟩ := at_T65 (Kd.R_reads' hR6).2.2 (0 : Int) (by omega) (by rw [List.length_map]; omega)
     have hr0 : rd_T65 (sg.map cR) (0 : Int) = ⟨s0, s1, s2⟩ := by
      have := rdR13 (l := sg) hlt0
      rw [show ((0 : Nat) : Int) = 0 from rfl] at this
      rw [this, HSG.out]
      rfl
     have e6 := addr_zero ad6
     rw [hr0] at c0 c1' c2
     simp only [Int.toNat_zero, Nat.zero_mul] at c0 c1' c2
     rw [e6] at c0 c1' c2
     clear hr0 e6 hR6
     go_wp2_with fail
     refine (ref_Fetch.calls w6 TR g st P6.out.rR HGD.out ⟨s0, s1, s2⟩ HX0.out.2 (fun k b hb => by have := HK.out.fit.look k b hb; omega)).mono ?_
     rintro e w7 ⟨rfl, TR7, s7⟩
     rw [hX] at s7 ⊢
     simp only at s7 ⊢
     have P7 := Aside0.mk (P6.out.stepR s7)
     clear s7 P6 hX c0 c1' c2
     have hee : (xe == xe) = true := beq_self_eq_true _
     have hbb : (xb.toList == xb.toList) = true := beq_self_eq_true _
     go_wp2_with fail
     go_meet
     case rel => exact ⟨by first | rfl | simp, ⟨_, _, _, _, _, P7.out, KO.out⟩⟩
   rcases Bool.eq_false_or_eq_true (x0 == 5) with z5 | z5
   ·as_aux_lemma =>
    obtain ⟨k0, k1, k2, k3, k4, k5, kf⟩ := cells6o K4.out
    go_wp2_with fail
    refine (remote_Script.calls w4 TD d st P4.out.dR A5 sc.length c5 sc (Kd.C_below HC5.out P4.out.bel) hc5 HO.out.2.2).mono ?_
    rintro e w5 ⟨rfl, h5, f5⟩
    have s5 := (RSt.refl P4.out.dR (fun k hk => (P4.out.hD k hk).2)).step h5 f5
    have P5 := Aside0.mk (P4.out.stepD s5)
    have K5 := Aside0.mk (s5.keeps K4.out HBX.out.2.1)
    clear s5 h5 f5 K4 k0 k1 k2 k3 k4 k5 kf
    have H0 := Aside0.mk (Kd.R_of_own (own_lit_of (enc := Value.int .i64) w5 w5.heap.size 3 [] (Nat.le_refl _) (by decide)) (fun _ _ => trivial) : (Kd.int .i64).R 3 (w5.alloc (.cells #[] 3)) w5.heap.size (fun _ => True) (.slice (some ⟨w5.heap.size, 0, none⟩) 0 0) [])
    obtain ⟨e0', e1', e2', e3', e4', e5', fr'⟩ := cells6o (blk_alloc K5.out (.cells #[] 3))
    go_wp2_with (at_builtin; refine Kd.R_append_row (Value.int .i64) 0 (w0 := w5) w5.heap.size rfl (.tmp 229) (.tmp 231) 35 3 (.int .i64 0) 8 rfl Tryz.underlying35 intinfo rfl (by decide) _ [] sc A5 sc.length c5 (fun _ => True) rfl rfl (fun _ _ => trivial) H0.out (Kd.C_below HC5.out (below_alloc P5.out.bel _)) (below_alloc (Below.refl _ _) _) (by simp) (by have := HO.out.2.2; simp at this ⊢; omega) ?_; intro v1 w6 hR hB hg hat; obtain ⟨A6, c6, rfl⟩ := Kd.R_slice hR; obtain ⟨n6, hn6⟩ : ∃ n_ : Nat, ([] ++ sc).length = n_ := ⟨_, rfl⟩; rw [hn6] at hR ⊢; have HSC := Aside0.mk (P5.out.rR.script hB hR); obtain ⟨_, _, vv, ss, hst, _⟩ := P5.out.rR.below hB; obtain ⟨t0, t1, t2, tr⟩ := cells3 hst; clear hR hB hg hat hst hn6)
    have s6 := (DSt.refl P5.out.rR).step (y := { st with s := sc }) (by simpa using HSC.out.1) HSC.out.2
    have P6 := Aside0.mk (P5.out.stepR s6)
    have KO := Aside0.mk (show KeepP (i + 1) { st with s := sc } ver l from HK.out.same rfl HK.out.ln HK.out.rng)
    clear s6
    go_meet
    case rel => exact ⟨by first | rfl | simp, ⟨_, _, _, _, _, P6.out, KO.out⟩⟩
   rcases Bool.eq_false_or_eq_true (x0 == 6) with z6 | z6
   ·as_aux_lemma =>
    go_wp2_with fail
    refine region_draw (n := 14) (S := fun W => W.heap[bx]? = some (.cells #[.int .i64 x0, .int .i64 x1, .string x2, .string x3, .slice A4 sg.length c4, .slice A5 sc.length c5] 59)) (ds := []) #[false, false, false, false, false, false, false, false, false, false, false, false, false, false] (by kernel_rfl) rfl rfl (fun W => W.heap[bx]? = some (.cells #[.int .i64 x0, .int .i64 x1, .string x2, .string x3, .slice A4 sg.length c4, .slice A5 sc.length c5] 59) ∧ PSt w W d g gm st st ver l TD TR) ⟨blk_drew K4.out, P4.out.below (below_drew1 (Below.refl _ _))⟩ (fun W h => h.1) ?_
    rintro w5 ⟨k5, p5⟩
    refine with_tabW pp47tab pp47bits (fun HT_ HW_ => ?_)
    have K5 := Aside0.mk k5
    have P5 := Aside0.mk p5
    clear k5 p5 K4 P4
    refine pure_ (i := 0) (N := some 237) (v := ?_) (a' := ?_) #[true, false, false, false, false, false, false, false, false, false, false, false, false, false] rfl rfl (any_of HT_.out (by kernel_rfl)) (fun _ _ _ h => h) (Or.inl ⟨by rfl, ?_⟩) ?_ ?_
    rotate_left
    ·intro w'
     go_simp
     with_reducible rfl
    rotate_left
    ·simp only [Act.put, List.setIfInBounds_toArray, List.set_cons_zero, List.set_cons_succ, i64_w, i32_w]
     rfl
    refine pure_ (i := 1) (N := some 238) (v := ?_) (a' := ?_) #[true, true, false, false, false, false, false, false, false, false, false, false, false, false] rfl rfl (any_of HT_.out (by kernel_rfl)) (fun _ _ _ h => h) (Or.inl ⟨by rfl, ?_⟩) ?_ ?_
    rotate_left
    ·intro w'
     go_simp
     with_reducible rfl
    rotate_left
    ·simp only [Act.put, List.setIfInBounds_toArray, List.set_cons_zero, List.set_cons_succ, i64_w, i32_w]
     rfl
    refine pure_ (i := 3) (N := some 240) (v := ?_) (a' := ?_) #[true, true, false, true, false, false, false, false, false, false, false, false, false, false] rfl rfl (any_of HT_.out (by kernel_rfl)) (fun _ _ _ h => h) (Or.inl ⟨by rfl, ?_⟩) ?_ ?_
    rotate_left
    ·intro w'
     go_simp
     with_reducible rfl
    rotate_left
    ·simp only [Act.put, List.setIfInBounds_toArray, List.set_cons_zero, List.set_cons_succ, i64_w, i32_w]
     rfl
    refine pure_ (i := 6) (N := some 243) (v := ?_) (a' := ?_) #[true, true, false, true, false, false, true, false, false, false, false, false, false, false] rfl rfl (any_of HT_.out (by kernel_rfl)) (fun _ _ _ h => h) (Or.inl ⟨by rfl, ?_⟩) ?_ ?_
    rotate_left
    ·intro w'
     go_simp
     with_reducible rfl
    rotate_left
    ·simp only [Act.put, List.setIfInBounds_toArray, List.set_cons_zero, List.set_cons_succ, i64_w, i32_w]
     rfl
    refine pure_ (i := 7) (N := some 244) (v := ?_) (a' := ?_) #[true, true, false, true, false, false, true, true, false, false, false, false, false, false] rfl rfl (any_of HT_.out (by kernel_rfl)) (fun _ _ _ h => h) (Or.inl ⟨by rfl, ?_⟩) ?_ ?_
    rotate_left
    ·intro w'
     go_simp
     with_reducible rfl
    rotate_left
    ·simp only [Act.put, List.setIfInBounds_toArray, List.set_cons_zero, List.set_cons_succ, i64_w, i32_w]
     rfl
    refine pure_ (i := 9) (N := some 246) (v := ?_) (a' := ?_) #[true, true, false, true, false, false, true, true, false, true, false, false, false, false] rfl rfl (any_of HT_.out (by kernel_rfl)) (fun _ _ _ h => h) (Or.inl ⟨by rfl, ?_⟩) ?_ ?_
    rotate_left
    ·intro w'
     go_simp
     with_reducible rfl
    rotate_left
    ·simp only [Act.put, List.setIfInBounds_toArray, List.set_cons_zero, List.set_cons_succ, i64_w, i32_w]
     rfl
    refine take_ (i := 2) (N := some 239) (v := ?_) (a' := ?_) #[true, true, true, true, false, false, true, true, false, true, false, false, false, false] rfl rfl (take_ofW HT_.out HW_.out (by kernel_rfl)) (fun _ _ _ h => h) (Or.inl ⟨by rfl, ?_⟩) K5.out ?_ ?_
    rotate_left
    ·intro w' hW
     obtain ⟨k0, k1, k2, k3, k4, k5, kf⟩ := cells6o hW
     go_simp
     with_reducible rfl
    rotate_left
    ·simp only [Act.put, List.setIfInBounds_toArray, List.set_cons_zero, List.set_cons_succ, i64_w, i32_w]
     rfl
    refine take_ (i := 4) (N := some 241) (v := ?_) (a' := ?_) #[true, true, true, true, true, false, true, true, false, true, false, false, false, false] rfl rfl (take_ofW HT_.out HW_.out (by kernel_rfl)) (fun _ _ _ h => h) (Or.inl ⟨by rfl, ?_⟩) K5.out ?_ ?_
    rotate_left
    ·intro w' hW
     obtain ⟨k0, k1, k2, k3, k4, k5, kf⟩ := cells6o hW
     go_simp
     with_reducible rfl
    rotate_left
    ·simp only [Act.put, List.setIfInBounds_toArray, List.set_cons_zero, List.set_cons_succ, i64_w, i32_w]
     rfl
    refine take_ (i := 8) (N := some 245) (v := ?_) (a' := ?_) #[true, true, true, true, true, false, true, true, true, true, false, false, false, false] rfl rfl (take_ofW HT_.out HW_.out (by kernel_rfl)) (fun _ _ _ h => h) (Or.inl ⟨by rfl, ?_⟩) K5.out ?_ ?_
    rotate_left
    ·intro w' hW
     obtain ⟨k0, k1, k2, k3, k4, k5, kf⟩ := cells6o hW
     go_simp
     with_reducible rfl
    rotate_left
    ·simp only [Act.put, List.setIfInBounds_toArray, List.set_cons_zero, List.set_cons_succ, i64_w, i32_w]
     rfl
    refine take_ (i := 10) (N := some 247) (v := ?_) (a' := ?_) #[true, true, true, true, true, false, true, true, true, true, true, false, false, false] rfl rfl (take_ofW HT_.out HW_.out (by kernel_rfl)) (fun _ _ _ h => h) (Or.inl ⟨by rfl, ?_⟩) K5.out ?_ ?_
    rotate_left
    ·intro w' hW
     obtain ⟨k0, k1, k2, k3, k4, k5, kf⟩ := cells6o hW
     go_simp
     with_reducible rfl
    rotate_left
    ·simp only [Act.put, List.setIfInBounds_toArray, List.set_cons_zero, List.set_cons_succ, i64_w, i32_w]
     rfl
    refine one_ (i := 5) (N := some 242) #[true, true, true, true, true, true, true, true, true, true, true, false, false, false] rfl rfl (one_of HT_.out (by kernel_rfl)) (by decide) (fun K hK => ?_)
    refine goes_ Tryz.func24 (by kernel_rfl) rfl #[.pointer (some ⟨d, 0, none⟩), .string x2, .string x3] (by rfl) rfl rfl (by (try simp only [List.map_toArray, List.map_cons, List.map_nil]); first | done | rfl) ?_
    refine (remote_Put.calls w5 TD d st P5.out.dR x2 x3 (by have := HZ.out; omega)).mono ?_
    rintro e w6 ⟨rfl, h6, f6⟩
    refine ⟨_, rfl, ?_⟩
    have s6 := (RSt.refl P5.out.dR (fun k hk => (P5.out.hD k hk).2)).step h6 f6
    have P6 := Aside0.mk (P5.out.stepD s6)
    have K6 := Aside0.mk (s6.keeps K5.out HBX.out.2.1)
    clear s6 h6 f6 K5 P5
    refine hK.out _ _ K6.out (fun _ => ?_)
    clear hK K
    refine norm_ (a' := ?_) ?_ ?_
    rotate_left
    ·show Act.put _ (some 242) _ = _
     simp only [Act.put, List.setIfInBounds_toArray, List.set_cons_zero, List.set_cons_succ, i64_w, i32_w]
     rfl
    refine one_ (i := 11) (N := some 248) #[true, true, true, true, true, true, true, true, true, true, true, true, false, false] rfl rfl (one_of HT_.out (by kernel_rfl)) (by decide) (fun K hK => ?_)
    refine goes_ Tryz.func25 (by kernel_rfl) rfl #[.pointer (some ⟨g, 0, none⟩), .string x2, .string x3] (by rfl) rfl rfl (by (try simp only [List.map_toArray, List.map_cons, List.map_nil]); first | done | rfl) ?_
    refine (rf_Put w6 TR g st P6.out.rR HGD.out.len' HGD.out.nd x2 x3).mono ?_
    rintro e w7 ⟨rfl, h7, f7⟩
    refine ⟨_, rfl, ?_⟩
    have s7 := (DSt.refl P6.out.rR).step h7 f7
    have P7 := Aside0.mk (P6.out.stepR s7)
    have K7 := Aside0.mk (s7.keeps K6.out HBX.out.2.2.1)
    clear s7 h7 f7 K6 P6
    refine hK.out _ _ K7.out (fun _ => ?_)
    clear hK K
    refine norm_ (a' := ?_) ?_ ?_
    rotate_left
    ·show Act.put _ (some 248) _ = _
     simp only [Act.put, List.setIfInBounds_toArray, List.set_cons_zero, List.set_cons_succ, i64_w, i32_w]
     rfl
    refine pure_ (i := 12) (N := some 249) (v := ?_) (a' := ?_) #[true, true, true, true, true, true, true, true, true, true, true, true, true, false] rfl rfl (any_of HT_.out (by kernel_rfl)) (fun _ _ _ h => h) (Or.inl ⟨by rfl, ?_⟩) ?_ ?_
    rotate_left
    ·intro w'
     go_simp
     with_reducible rfl
    rotate_left
    ·simp only [Act.put, List.setIfInBounds_toArray, List.set_cons_zero, List.set_cons_succ, i64_w, i32_w]
     rfl
    refine pure_ (i := 13) (N := some 9) (v := ?_) (a' := ?_) #[true, true, true, true, true, true, true, true, true, true, true, true, true, true] rfl rfl (any_of HT_.out (by kernel_rfl)) (fun _ _ _ h => h) (Or.inl ⟨by rfl, ?_⟩) ?_ ?_
    rotate_left
    ·intro w'
     go_simp
     with_reducible rfl
    rotate_left
    ·simp only [Act.put, List.setIfInBounds_toArray, List.set_cons_zero, List.set_cons_succ, i64_w, i32_w]
     rfl
    refine done_ (done_of HT_.out (by kernel_rfl)) ?_
    have KO := Aside0.mk (show KeepP (i + 1) (st.put x2 x3).1 ver l from HK.out.put (k := x2) (b := x3) (by have := HZ.out; omega) (by have := HZ.out; omega) (put_st st x2 x3) HK.out.ln HK.out.rng)
    go_wp2_with fail
    go_meet
    case rel => exact ⟨by first | rfl | simp, ⟨_, _, _, _, _, P7.out, KO.out⟩⟩
   as_aux_lemma =>
   go_wp2_with fail
   refine region_draw (n := 10) (S := fun W => W.heap[bx]? = some (.cells #[.int .i64 x0, .int .i64 x1, .string x2, .string x3, .slice A4 sg.length c4, .slice A5 sc.length c5] 59)) (ds := []) #[false, false, false, false, false, false, false, false, false, false] (by kernel_rfl) rfl rfl (fun W => W.heap[bx]? = some (.cells #[.int .i64 x0, .int .i64 x1, .string x2, .string x3, .slice A4 sg.length c4, .slice A5 sc.length c5] 59) ∧ PSt w W d g gm st st ver l TD TR) ⟨blk_drew K4.out, P4.out.below (below_drew1 (Below.refl _ _))⟩ (fun W h => h.1) ?_
   rintro w5 ⟨k5, p5⟩
   refine with_tabW pp15tab pp15bits (fun HT_ HW_ => ?_)
   have K5 := Aside0.mk k5
   have P5 := Aside0.mk p5
   clear k5 p5 K4 P4
   refine pure_ (i := 0) (N := some 69) (v := ?_) (a' := ?_) #[true, false, false, false, false, false, false, false, false, false] rfl rfl (any_of HT_.out (by kernel_rfl)) (fun _ _ _ h => h) (Or.inl ⟨by rfl, ?_⟩) ?_ ?_
   rotate_left
   ·intro w'
    go_simp
    with_reducible rfl
   rotate_left
   ·simp only [Act.put, List.setIfInBounds_toArray, List.set_cons_zero, List.set_cons_succ, i64_w, i32_w]
    rfl
   refine pure_ (i := 1) (N := some 70) (v := ?_) (a' := ?_) #[true, true, false, false, false, false, false, false, false, false] rfl rfl (any_of HT_.out (by kernel_rfl)) (fun _ _ _ h => h) (Or.inl ⟨by rfl, ?_⟩) ?_ ?_
   rotate_left
   ·intro w'
    go_simp
    with_reducible rfl
   rotate_left
   ·simp only [Act.put, List.setIfInBounds_toArray, List.set_cons_zero, List.set_cons_succ, i64_w, i32_w]
    rfl
   refine pure_ (i := 4) (N := some 73) (v := ?_) (a' := ?_) #[true, true, false, false, true, false, false, false, false, false] rfl rfl (any_of HT_.out (by kernel_rfl)) (fun _ _ _ h => h) (Or.inl ⟨by rfl, ?_⟩) ?_ ?_
   rotate_left
   ·intro w'
    go_simp
    with_reducible rfl
   rotate_left
   ·simp only [Act.put, List.setIfInBounds_toArray, List.set_cons_zero, List.set_cons_succ, i64_w, i32_w]
    rfl
   refine pure_ (i := 5) (N := some 74) (v := ?_) (a' := ?_) #[true, true, false, false, true, true, false, false, false, false] rfl rfl (any_of HT_.out (by kernel_rfl)) (fun _ _ _ h => h) (Or.inl ⟨by rfl, ?_⟩) ?_ ?_
   rotate_left
   ·intro w'
    go_simp
    with_reducible rfl
   rotate_left
   ·simp only [Act.put, List.setIfInBounds_toArray, List.set_cons_zero, List.set_cons_succ, i64_w, i32_w]
    rfl
   refine take_ (i := 2) (N := some 71) (v := ?_) (a' := ?_) #[true, true, true, false, true, true, false, false, false, false] rfl rfl (take_ofW HT_.out HW_.out (by kernel_rfl)) (fun _ _ _ h => h) (Or.inl ⟨by rfl, ?_⟩) K5.out ?_ ?_
   rotate_left
   ·intro w' hW
    obtain ⟨k0, k1, k2, k3, k4, k5, kf⟩ := cells6o hW
    go_simp
    with_reducible rfl
   rotate_left
   ·simp only [Act.put, List.setIfInBounds_toArray, List.set_cons_zero, List.set_cons_succ, i64_w, i32_w]
    rfl
   refine take_ (i := 6) (N := some 75) (v := ?_) (a' := ?_) #[true, true, true, false, true, true, true, false, false, false] rfl rfl (take_ofW HT_.out HW_.out (by kernel_rfl)) (fun _ _ _ h => h) (Or.inl ⟨by rfl, ?_⟩) K5.out ?_ ?_
   rotate_left
   ·intro w' hW
    obtain ⟨k0, k1, k2, k3, k4, k5, kf⟩ := cells6o hW
    go_simp
    with_reducible rfl
   rotate_left
   ·simp only [Act.put, List.setIfInBounds_toArray, List.set_cons_zero, List.set_cons_succ, i64_w, i32_w]
    rfl
   refine one_ (i := 3) (N := some 72) #[true, true, true, true, true, true, true, false, false, false] rfl rfl (one_of HT_.out (by kernel_rfl)) (by decide) (fun K hK => ?_)
   refine goes_ Tryz.func26 (by kernel_rfl) rfl #[.pointer (some ⟨d, 0, none⟩), .string x2] (by rfl) rfl rfl (by (try simp only [List.map_toArray, List.map_cons, List.map_nil]); first | done | rfl) ?_
   refine (remote_Delete.calls w5 TD d st P5.out.dR x2 (by have := HZ.out; omega)).mono ?_
   rintro e w6 ⟨rfl, h6, f6⟩
   refine ⟨_, rfl, ?_⟩
   have s6 := (RSt.refl P5.out.dR (fun k hk => (P5.out.hD k hk).2)).step h6 f6
   have P6 := Aside0.mk (P5.out.stepD s6)
   have K6 := Aside0.mk (s6.keeps K5.out HBX.out.2.1)
   clear s6 h6 f6 K5 P5
   refine hK.out _ _ K6.out (fun _ => ?_)
   clear hK K
   refine norm_ (a' := ?_) ?_ ?_
   rotate_left
   ·show Act.put _ (some 72) _ = _
    simp only [Act.put, List.setIfInBounds_toArray, List.set_cons_zero, List.set_cons_succ, i64_w, i32_w]
    rfl
   refine one_ (i := 7) (N := some 76) #[true, true, true, true, true, true, true, true, false, false] rfl rfl (one_of HT_.out (by kernel_rfl)) (by decide) (fun K hK => ?_)
   refine goes_ Tryz.func27 (by kernel_rfl) rfl #[.pointer (some ⟨g, 0, none⟩), .string x2] (by rfl) rfl rfl (by (try simp only [List.map_toArray, List.map_cons, List.map_nil]); first | done | rfl) ?_
   refine (rf_Delete w6 TR g st P6.out.rR HGD.out.len' HGD.out.nd x2).mono ?_
   rintro e w7 ⟨rfl, h7, f7⟩
   refine ⟨_, rfl, ?_⟩
   have s7 := (DSt.refl P6.out.rR).step h7 f7
   have P7 := Aside0.mk (P6.out.stepR s7)
   have K7 := Aside0.mk (s7.keeps K6.out HBX.out.2.2.1)
   clear s7 h7 f7 K6 P6
   refine hK.out _ _ K7.out (fun _ => ?_)
   clear hK K
   refine norm_ (a' := ?_) ?_ ?_
   rotate_left
   ·show Act.put _ (some 76) _ = _
    simp only [Act.put, List.setIfInBounds_toArray, List.set_cons_zero, List.set_cons_succ, i64_w, i32_w]
    rfl
   refine pure_ (i := 8) (N := some 77) (v := ?_) (a' := ?_) #[true, true, true, true, true, true, true, true, true, false] rfl rfl (any_of HT_.out (by kernel_rfl)) (fun _ _ _ h => h) (Or.inl ⟨by rfl, ?_⟩) ?_ ?_
   rotate_left
   ·intro w'
    go_simp
    with_reducible rfl
   rotate_left
   ·simp only [Act.put, List.setIfInBounds_toArray, List.set_cons_zero, List.set_cons_succ, i64_w, i32_w]
    rfl
   refine pure_ (i := 9) (N := some 9) (v := ?_) (a' := ?_) #[true, true, true, true, true, true, true, true, true, true] rfl rfl (any_of HT_.out (by kernel_rfl)) (fun _ _ _ h => h) (Or.inl ⟨by rfl, ?_⟩) ?_ ?_
   rotate_left
   ·intro w'
    go_simp
    with_reducible rfl
   rotate_left
   ·simp only [Act.put, List.setIfInBounds_toArray, List.set_cons_zero, List.set_cons_succ, i64_w, i32_w]
    rfl
   refine done_ (done_of HT_.out (by kernel_rfl)) ?_
   have KO := Aside0.mk (show KeepP (i + 1) (st.delete x2).1 ver l from HK.out.del x2)
   go_wp2_with fail
   go_meet
   case rel => exact ⟨by first | rfl | simp, ⟨_, _, _, _, _, P7.out, KO.out⟩⟩
  case rest =>
   as_aux_lemma =>
    obtain ⟨rfl, HP⟩ := hcut
    obtain ⟨st', ver', l', TD', TR', hp, hk⟩ := HP.out
    clear HP
    obtain ⟨_, _, v, sv, hst, _, _⟩ := hp.rR
    have P9 := Aside0.mk hp
    have K9 := Aside0.mk hk
    have HST := Aside0.mk hst
    clear hp hk hst
    go_wp2_with fail
    refine region_draw (n := 11) (S := fun W => W.heap[g]? = some (.cells #[v, sv, .int .i64 st'.n] 57)) (ds := []) #[false, false, false, false, false, false, false, false, false, false, false] (by kernel_rfl) rfl rfl (fun W => W.heap[g]? = some (.cells #[v, sv, .int .i64 st'.n] 57) ∧ PSt w W d g gm st' st' ver' l' TD' TR') ⟨blk_drew HST.out, P9.out.below (below_drew1 (Below.refl _ _))⟩ (fun W h => h.1) ?_
    rintro w10 ⟨k10, p10⟩
    refine with_tabW pp48tab pp48bits (fun HT_ HW_ => ?_)
    have K10 := Aside0.mk k10
    have P10 := Aside0.mk p10
    clear k10 p10
    refine pure_ (i := 0) (N := some 250) (v := ?_) (a' := ?_) #[true, false, false, false, false, false, false, false, false, false, false] rfl rfl (any_of HT_.out (by kernel_rfl)) (fun _ _ _ h => h) (Or.inl ⟨by rfl, ?_⟩) ?_ ?_
    rotate_left
    ·intro w'
     go_simp
     with_reducible rfl
    rotate_left
    ·simp only [Act.put, List.setIfInBounds_toArray, List.set_cons_zero, List.set_cons_succ, i64_w, i32_w]
     rfl
    refine pure_ (i := 1) (N := some 251) (v := ?_) (a' := ?_) #[true, true, false, false, false, false, false, false, false, false, false] rfl rfl (any_of HT_.out (by kernel_rfl)) (fun _ _ _ h => h) (Or.inl ⟨by rfl, ?_⟩) ?_ ?_
    rotate_left
    ·intro w'
     go_simp
     with_reducible rfl
    rotate_left
    ·simp only [Act.put, List.setIfInBounds_toArray, List.set_cons_zero, List.set_cons_succ, i64_w, i32_w]
     rfl
    refine pure_ (i := 2) (N := some 252) (v := ?_) (a' := ?_) #[true, true, true, false, false, false, false, false, false, false, false] rfl rfl (any_of HT_.out (by kernel_rfl)) (fun _ _ _ h => h) (Or.inl ⟨by rfl, ?_⟩) ?_ ?_
    rotate_left
    ·intro w'
     go_simp
     with_reducible rfl
    rotate_left
    ·simp only [Act.put, List.setIfInBounds_toArray, List.set_cons_zero, List.set_cons_succ, i64_w, i32_w]
     rfl
    refine pure_ (i := 3) (N := some 253) (v := ?_) (a' := ?_) #[true, true, true, true, false, false, false, false, false, false, false] rfl rfl (any_of HT_.out (by kernel_rfl)) (fun _ _ _ h => h) (Or.inl ⟨by rfl, ?_⟩) ?_ ?_
    rotate_left
    ·intro w'
     go_simp
     with_reducible rfl
    rotate_left
    ·simp only [Act.put, List.setIfInBounds_toArray, List.set_cons_zero, List.set_cons_succ, i64_w, i32_w]
     rfl
    refine pure_ (i := 5) (N := some 255) (v := ?_) (a' := ?_) #[true, true, true, true, false, true, false, false, false, false, false] rfl rfl (any_of HT_.out (by kernel_rfl)) (fun _ _ _ h => h) (Or.inl ⟨by rfl, ?_⟩) ?_ ?_
    rotate_left
    ·intro w'
     go_simp
     with_reducible rfl
    rotate_left
    ·simp only [Act.put, List.setIfInBounds_toArray, List.set_cons_zero, List.set_cons_succ, i64_w, i32_w]
     rfl
    refine pure_ (i := 6) (N := some 256) (v := ?_) (a' := ?_) #[true, true, true, true, false, true, true, false, false, false, false] rfl rfl (any_of HT_.out (by kernel_rfl)) (fun _ _ _ h => h) (Or.inl ⟨by rfl, ?_⟩) ?_ ?_
    rotate_left
    ·intro w'
     go_simp
     with_reducible rfl
    rotate_left
    ·simp only [Act.put, List.setIfInBounds_toArray, List.set_cons_zero, List.set_cons_succ, i64_w, i32_w]
     rfl
    refine pure_ (i := 7) (N := some 257) (v := ?_) (a' := ?_) #[true, true, true, true, false, true, true, true, false, false, false] rfl rfl (any_of HT_.out (by kernel_rfl)) (fun _ _ _ h => h) (Or.inl ⟨by rfl, ?_⟩) ?_ ?_
    rotate_left
    ·intro w'
     go_simp
     with_reducible rfl
    rotate_left
    ·simp only [Act.put, List.setIfInBounds_toArray, List.set_cons_zero, List.set_cons_succ, i64_w, i32_w]
     rfl
    refine take_ (i := 8) (N := some 258) (v := ?_) (a' := ?_) #[true, true, true, true, false, true, true, true, true, false, false] rfl rfl (take_ofW HT_.out HW_.out (by kernel_rfl)) (fun _ _ _ h => h) (Or.inl ⟨by rfl, ?_⟩) K10.out ?_ ?_
    rotate_left
    ·intro w' hW
     obtain ⟨t0, t1, t2, tr⟩ := cells3 hW
     go_simp
     with_reducible rfl
    rotate_left
    ·simp only [Act.put, List.setIfInBounds_toArray, List.set_cons_zero, List.set_cons_succ, i64_w, i32_w]
     rfl
    refine one_ (i := 4) (N := some 254) #[true, true, true, true, true, true, true, true, true, false, false] rfl rfl (one_of HT_.out (by kernel_rfl)) (by decide) (fun K hK => ?_)
    refine goes_ Tryz.func28 (by kernel_rfl) rfl #[.pointer (some ⟨d, 0, none⟩)] (by rfl) rfl rfl (by (try simp only [List.map_toArray, List.map_cons, List.map_nil]); first | done | rfl) ?_
    refine (remote_Calls.calls w10 TD' d st' P10.out.dR).mono ?_
    rintro e w11 ⟨rfl, hw11⟩
    refine ⟨_, rfl, ?_⟩
    subst hw11
    refine hK.out _ _ K10.out (fun _ => ?_)
    clear hK K
    refine norm_ (a' := ?_) ?_ ?_
    rotate_left
    ·show Act.put _ (some 254) _ = _
     simp only [Act.put, List.setIfInBounds_toArray, List.set_cons_zero, List.set_cons_succ, i64_w, i32_w]
     rfl
    refine pure_ (i := 9) (N := some 259) (v := ?_) (a' := ?_) #[true, true, true, true, true, true, true, true, true, true, false] rfl rfl (any_of HT_.out (by kernel_rfl)) (fun _ _ _ h => h) (Or.inl ⟨by rfl, ?_⟩) ?_ ?_
    rotate_left
    ·intro w'
     go_simp
     with_reducible rfl
    rotate_left
    ·simp only [Act.put, List.setIfInBounds_toArray, List.set_cons_zero, List.set_cons_succ, i64_w, i32_w]
     rfl
    refine pure_ (i := 10) (N := some 260) (v := ?_) (a' := ?_) #[true, true, true, true, true, true, true, true, true, true, true] rfl rfl (any_of HT_.out (by kernel_rfl)) (fun _ _ _ h => h) (Or.inl ⟨by rfl, ?_⟩) ?_ ?_
    rotate_left
    ·intro w'
     go_simp
     with_reducible rfl
    rotate_left
    ·simp only [Act.put, List.setIfInBounds_toArray, List.set_cons_zero, List.set_cons_succ, i64_w, i32_w]
     rfl
    refine done_ (done_of HT_.out (by kernel_rfl)) ?_
    go_wp2_with fail
    go_roundw
    case rel => exact ⟨i + 1, st', ver', l', TD', TR', by go_num, by omega, by omega, K9, P10⟩
    case measure => simp [intOf]; omega
/-! ### the row's reading -/
structure S59 where
 f0 : Int
 f1 : Int
 f2 : ByteArray
 f3 : ByteArray
 f4 : (List S45)
 f5 : (List Int)
def z59 : S59 := ⟨(0 : Int), (0 : Int), (⟨#[]⟩ : ByteArray), (⟨#[]⟩ : ByteArray), ([] : List S45), ([] : List Int)⟩
def k59 : Kd S59 := Kd.iso (Kd.pair (Kd.int .i64) (Kd.pair (Kd.int .i64) (Kd.pair Kd.string (Kd.pair Kd.string (Kd.pair (Kd.slice 45 k45) (Kd.slice 3 (Kd.int .i64))))))) (fun x : S59 => (x.f0, x.f1, x.f2, x.f3, x.f4, x.f5))
theorem k59_open {w : World} {x : S59} {cs : List Value} (h : k59.K w x cs) : ∃ A4 c4 A5 c5, cs = [.int .i64 x.f0, .int .i64 x.f1, .string x.f2, .string x.f3, .slice A4 x.f4.length c4, .slice A5 x.f5.length c5] ∧ x.f4.length ≤ c4 ∧ k45.C w A4 x.f4.length x.f4 ∧ x.f5.length ≤ c5 ∧ (Kd.int .i64).C w A5 x.f5.length x.f5 := by
 obtain ⟨_, _, rfl, rfl, ⟨_, _, rfl, rfl, ⟨_, _, rfl, rfl, ⟨_, _, rfl, rfl, ⟨_, _, rfl, ⟨A4, c4, rfl, l4, g4⟩, ⟨A5, c5, rfl, l5, g5⟩⟩⟩⟩⟩⟩ := h
 exact ⟨A4, c4, A5, c5, rfl, l4, g4, l5, g5⟩
def rd_T59 (xs : List S59) (i : Int) : S59 := xs.getD i.toNat z59
theorem at_T59 {w : World} {A : Option Addr} {n : Nat} {xs : List S59} (h : Kd.C k59 w A n xs) (i : Int) (h0 : 0 ≤ i) (h1 : i < n) : ∃ ad A4 c4 A5 c5, A = some ad ∧ w.cell? (ad.add (i.toNat * 6)) = some (.int .i64 (rd_T59 xs i).f0) ∧ w.cell? ⟨(ad.add (i.toNat * 6)).block, (ad.add (i.toNat * 6)).off + 1, none⟩ = some (.int .i64 (rd_T59 xs i).f1) ∧ w.cell? ⟨(ad.add (i.toNat * 6)).block, (ad.add (i.toNat * 6)).off + 2, none⟩ = some (.string (rd_T59 xs i).f2) ∧ w.cell? ⟨(ad.add (i.toNat * 6)).block, (ad.add (i.toNat * 6)).off + 3, none⟩ = some (.string (rd_T59 xs i).f3) ∧ w.cell? ⟨(ad.add (i.toNat * 6)).block, (ad.add (i.toNat * 6)).off + 4, none⟩ = some (.slice A4 (rd_T59 xs i).f4.length c4) ∧ w.cell? ⟨(ad.add (i.toNat * 6)).block, (ad.add (i.toNat * 6)).off + 5, none⟩ = some (.slice A5 (rd_T59 xs i).f5.length c5) ∧ (rd_T59 xs i).f4.length ≤ c4 ∧ k45.C w A4 (rd_T59 xs i).f4.length (rd_T59 xs i).f4 ∧ (rd_T59 xs i).f5.length ≤ c5 ∧ (Kd.int .i64).C w A5 (rd_T59 xs i).f5.length (rd_T59 xs i).f5 := by
 obtain ⟨ad, c, e, _, hK, hc0⟩ := Kd.C_get h z59 i h0 h1
 have hc : ∀ j u, c[j]? = some u → w.cell? (ad.add (i.toNat * 6 + j)) = some u := hc0
 obtain ⟨A4, c4, A5, c5, rfl, l4, g4, l5, g5⟩ := k59_open hK
 exact ⟨ad, A4, c4, A5, c5, e, hc 0 _ rfl, by rw [← add_field _ _ 1 (by omega)]; exact hc 1 _ rfl, by rw [← add_field _ _ 2 (by omega)]; exact hc 2 _ rfl, by rw [← add_field _ _ 3 (by omega)]; exact hc 3 _ rfl, by rw [← add_field _ _ 4 (by omega)]; exact hc 4 _ rfl, by rw [← add_field _ _ 5 (by omega)]; exact hc 5 _ rfl, l4, g4, l5, g5⟩
theorem plays13_wide (A0 : Option Addr) (n0 c0 : Nat) (l0 : List S59) (w : World) (K0 : (Kd.slice 59 k59).K w l0 [.slice A0 n0 c0])
  (G0 : (l0.length ≤ 9223372036854775807 ∧ l0.length * 96 ≤ 140737488351232 ∧ ∀ e101 ∈ l0, ((Lit.int .i64 e101.f0).wf = true ∧ (Lit.int .i64 e101.f1).wf = true ∧ e101.f2.size ≤ 9223372036854775807 ∧ e101.f3.size ≤ 9223372036854775807 ∧ (e101.f4.length ≤ 9223372036854775807 ∧ e101.f4.length * 24 ≤ 140737488351232 ∧ ∀ e102 ∈ e101.f4, ((Lit.int .i64 e102.f0).wf = true ∧ (Lit.int .i64 e102.f1).wf = true ∧ (Lit.int .u32 e102.f2).wf = true)) ∧ (e101.f5.length ≤ 9223372036854775807 ∧ e101.f5.length * 8 ≤ 140737488351232 ∧ ∀ e103 ∈ e101.f5, (Lit.int .i64 e103).wf = true)))) (hL : LaidW w) :
  Calls Tryz.prog 6 #[.slice A0 n0 c0] w fun e w' => e = .returned (.bool true) ∧ Below w.heap.size w w' := by
 obtain ⟨A0_, c0_, e0, hc0, hr0⟩ := K0
 simp only [List.cons.injEq, Value.slice.injEq, and_true] at e0
 obtain ⟨rfl, rfl, rfl⟩ := e0
 refine plays13_walk _ _ _ (fun i => ⟨(rd_T59 l0 (i : Int)).f0, (rd_T59 l0 (i : Int)).f1, (rd_T59 l0 (i : Int)).f2, (rd_T59 l0 (i : Int)).f3, (rd_T59 l0 (i : Int)).f4, (rd_T59 l0 (i : Int)).f5⟩) w hL ?_ ?_ hc0
 ·intro i hi
  obtain ⟨ad, A4, c4, A5, c5, e, x0, x1, x2, x3, x4, x5, l4, g4, l5, g5⟩ := at_T59 hr0 (i : Int) (by omega) (by omega)
  rw [Int.toNat_natCast] at x0 x1 x2 x3 x4 x5
  exact ⟨ad, A4, c4, A5, c5, e, x0, x1, x2, x3, x4, l4, g4, x5, l5, g5⟩
 ·intro i hi
  have hm : rd_T59 l0 (i : Int) ∈ l0 := by
   unfold rd_T59
   rw [Int.toNat_natCast, List.getD_eq_getElem?_getD, List.getElem?_eq_getElem hi]
   exact List.getElem_mem hi
  obtain ⟨h0, h1, h2, h3, ⟨_, _, h4⟩, ⟨_, h5, _⟩⟩ := G0.2.2 _ hm
  refine ⟨wf_i64 h1, fun x hx => ⟨?_, wf_i64 (h4 x hx).1⟩, h5⟩
  have h := (h4 x hx).2.2
  simp [Lit.wf, IntKind.min, IntKind.max, IntKind.bits, IntKind.signed] at h
  unfold U32
  omega
end Go.Proofs.YtlnbekaldemebaaGreatDoor.Thw
