/- Written by a program of mine (give.py, over the kit's print) out of the translation: contracts of the Go functions. Lean checks it. -/
import Derived.Test.YthndpknocofioaaGreatDoorPrint0
import Derived.Test.YthndpknocofioaaGreatDoorPrint4
import Derived.Test.YthndpknocofioaaGreatDoorPrint6
namespace Go.Proofs.YthndpknocofioaaGreatDoor.Print
open Go.RowKit Go.Proofs.YthndpknocofioaaGreatDoorW.PrintWords Go.Proofs.YthndpknocofioaaGreatDoorW.PrintLast Go.Proofs.YthndpknocofioaaGreatDoorW.PrintMore
attribute [local go_sem] max2_int min2_int max_two min_two max_three min_three max_four min_four   -- for this text's walks alone
set_option linter.unusedVariables false
set_option linter.unusedSimpArgs false

/-! ### record_Read: function 101 -/
theorem four {w : World} {s : Nat} {v0 v1 v2 v3 : Value} {t : TypeId} (h : w.heap[s]? = some (.cells #[v0, v1, v2, v3] t)) :
    w.cell? ⟨s, 0, none⟩ = some v0 ∧ w.cell? ⟨s, 1, none⟩ = some v1 ∧ w.cell? ⟨s, 2, none⟩ = some v2 ∧ w.cell? ⟨s, 3, none⟩ = some v3 ∧ ∀ i, w.frozen? ⟨s, i, none⟩ = false := by
  refine ⟨?_, ?_, ?_, ?_, fun i => ?_⟩ <;> simp [World.cell?, World.frozen?, h]
theorem two {w : World} {s : Nat} {v0 v1 : Value} {t : TypeId} (h : w.heap[s]? = some (.cells #[v0, v1] t)) :
    w.cell? ⟨s, 0, none⟩ = some v0 ∧ w.cell? ⟨s, 1, none⟩ = some v1 ∧ ∀ i, w.frozen? ⟨s, i, none⟩ = false := by
  refine ⟨?_, ?_, fun i => ?_⟩ <;> simp [World.cell?, World.frozen?, h]
theorem blk_set_same {w : World} {s : Nat} {cs cs' : Array Value} {t : TypeId} (i : Nat) (v : Value) (h : w.heap[s]? = some (.cells cs t)) (e : cs.setIfInBounds i v = cs') : (w.setCell ⟨s, i, none⟩ v).heap[s]? = some (.cells cs' t) := by
  subst e
  simp [World.setCell, Array.getElem?_modify, h]
theorem blk_set_other {w : World} {s : Nat} {o : Obj} (h : w.heap[s]? = some o) (b i : Nat) (ha : s ≠ b) (v : Value) : (w.setCell ⟨b, i, none⟩ v).heap[s]? = some o := (Below.heap_setCell w ⟨b, i, none⟩ v s ha).trans h
theorem set4 {w : World} {s : Nat} {v0 v1 v2 v3 : Value} {t : TypeId} (x0 x1 x2 x3 : Value) (h : w.heap[s]? = some (.cells #[v0, v1, v2, v3] t)) :
    ((((w.setCell ⟨s, 0, none⟩ x0).setCell ⟨s, 1, none⟩ x1).setCell ⟨s, 2, none⟩ x2).setCell ⟨s, 3, none⟩ x3).heap[s]? = some (.cells #[x0, x1, x2, x3] t) :=
  blk_set_same 3 _ (blk_set_same 2 _ (blk_set_same 1 _ (blk_set_same 0 _ h rfl) rfl) rfl) rfl
theorem below4 {w w1 : World} {s : Nat} (h : Below w.heap.size w w1) (hs : w.heap.size ≤ s) (x0 x1 x2 x3 : Value) :
    Below w.heap.size w ((((w1.setCell ⟨s, 0, none⟩ x0).setCell ⟨s, 1, none⟩ x1).setCell ⟨s, 2, none⟩ x2).setCell ⟨s, 3, none⟩ x3) :=
  (((h.setCell hs x0).setCell hs x1).setCell hs x2).setCell hs x3
theorem below_seq {B : Nat} {w w1 w2 : World} (h : Below B w w1) (hB : B ≤ w1.heap.size) (k : Below w1.heap.size w1 w2) : Below B w w2 := h.trans (k.mono hB)
set_option maxHeartbeats 1600000 in
set_option maxRecDepth 100000 in
theorem record_Read.early (k : Nat) (a0 : ByteArray) (n : Int) (b1 : ByteArray) (e1 : Int) (w : World) (h1 : varint_Take.f k a0 = some (n, b1, e1)) (he : ¬ e1 = 0) :
    Calls Tryz.prog 101 #[.string a0] w fun e w' => e = .returned (.tuple #[.agg #[.int .u64 0, .string ⟨#[]⟩, .string ⟨#[]⟩, .bool false], .string ⟨#[]⟩, .int .i64 e1]) ∧ Below w.heap.size w w' := by
  have H1 := Aside0.mk h1
  clear h1
  go_enter Tryz.func101, Tryz.ntmps101
  go_wp2_with fail
  refine (varint_Take.calls k a0 n b1 e1 _ H1.out).mono ?_
  rintro e w1 ⟨rfl, hb1⟩
  have o1 := blk_below (blk_new _ _) hb1
  have B1 := below_seq ((Below.refl w.heap.size w).alloc (Nat.le_refl _) _) (by simp) hb1
  have z1 : w.heap.size < w1.heap.size := blk_lt o1
  obtain ⟨c0, c1, c2, c3, hf⟩ := four o1
  clear hb1
  go_wp2_with fail
  refine bodyPost_ret (results_ctt rfl _ _ w.heap.size 50 #[.int .u64 0, .string ⟨#[]⟩, .string ⟨#[]⟩, .bool false] (0, 0) _ rfl (set4 _ _ _ _ o1) Tryz.underlying50 rfl rfl) rfl ⟨rfl, below4 B1 (Nat.le_refl _) _ _ _ _⟩
set_option maxHeartbeats 1600000 in
set_option maxRecDepth 100000 in
theorem record_Read.first (k : Nat) (a0 : ByteArray) (n : Int) (b1 key b2 : ByteArray) (e2 : Int) (w : World) (h1 : varint_Take.f k a0 = some (n, b1, 0)) (hg : (Go.bits .and .u64 n 1 == 1) = false) (h2 : varint_OfText.f k b1 = some (key, b2, e2)) (he : ¬ e2 = 0) :
    Calls Tryz.prog 101 #[.string a0] w fun e w' => e = .returned (.tuple #[.agg #[.int .u64 0, .string ⟨#[]⟩, .string ⟨#[]⟩, .bool false], .string ⟨#[]⟩, .int .i64 e2]) ∧ Below w.heap.size w w' := by
  have H1 := Aside0.mk h1
  clear h1
  have H2 := Aside0.mk h2
  clear h2
  go_enter Tryz.func101, Tryz.ntmps101
  go_wp2_with fail
  refine (varint_Take.calls k a0 n b1 0 _ H1.out).mono ?_
  rintro e w1 ⟨rfl, hb1⟩
  have o1 := blk_below (blk_new _ _) hb1
  have B1 := below_seq ((Below.refl w.heap.size w).alloc (Nat.le_refl _) _) (by simp) hb1
  have z1 : w.heap.size < w1.heap.size := blk_lt o1
  obtain ⟨c0, c1, c2, c3, hf⟩ := four o1
  clear hb1
  go_wp2_with fail
  refine wp_loop_rounds 3 ?_
  rw [rounds_succ]
  go_wp2_with fail
  refine (varint_OfText.calls k b1 key b2 e2 _ H2.out).mono ?_
  rintro e w2 ⟨rfl, hb2⟩
  have o2 := blk_below (blk_alloc (blk_alloc o1 _) _) hb2
  have r2 : w2.heap[w1.heap.size]? = some (.cells #[.int .u64 (n / 2), .string ⟨#[]⟩, .string ⟨#[]⟩, .bool false] 50) := blk_below (blk_alloc (blk_new w1 _) _) hb2
  have t2 : w2.heap[w1.heap.size + 1]? = some (.cells #[.pointer (some ⟨w1.heap.size, 1, none⟩), .pointer (some ⟨w1.heap.size, 2, none⟩)] 174) := by
    refine blk_below ?_ hb2
    have := heap_alloc_new (w1.alloc (.cells #[.int .u64 (n / 2), .string ⟨#[]⟩, .string ⟨#[]⟩, .bool false] 50)) (.cells #[.pointer (some ⟨w1.heap.size, 1, none⟩), .pointer (some ⟨w1.heap.size, 2, none⟩)] 174)
    simpa using this
  have B2 := below_seq ((B1.alloc (by omega) _).alloc (by simp; omega) _) (by simp; omega) hb2
  have z2 : w1.heap.size + 1 < w2.heap.size := blk_lt t2
  obtain ⟨p0, p1, p2, p3, pf⟩ := four o2
  obtain ⟨q0, q1, q2, q3, qf⟩ := four r2
  obtain ⟨s0, s1, sf⟩ := two t2
  clear hb2 c0 c1 c2 c3 hf
  go_wp2_with fail
  refine bodyPost_ret (results_ctt rfl _ _ w.heap.size 50 #[.int .u64 0, .string ⟨#[]⟩, .string ⟨#[]⟩, .bool false] (0, 0) _ rfl (set4 _ _ _ _ (blk_set_other o2 _ _ (by omega) _)) Tryz.underlying50 rfl rfl) rfl ⟨rfl, below4 (Below.setCell B2 (by show w.heap.size ≤ w1.heap.size; omega) _) (Nat.le_refl _) _ _ _ _⟩
set_option maxHeartbeats 1600000 in
set_option maxRecDepth 100000 in
theorem record_Read.goneFirst (k : Nat) (a0 : ByteArray) (n : Int) (b1 key b2 : ByteArray) (e2 : Int) (w : World) (h1 : varint_Take.f k a0 = some (n, b1, 0)) (hg : (Go.bits .and .u64 n 1 == 1) = true) (h2 : varint_OfText.f k b1 = some (key, b2, e2)) (he : ¬ e2 = 0) :
    Calls Tryz.prog 101 #[.string a0] w fun e w' => e = .returned (.tuple #[.agg #[.int .u64 0, .string ⟨#[]⟩, .string ⟨#[]⟩, .bool false], .string ⟨#[]⟩, .int .i64 e2]) ∧ Below w.heap.size w w' := by
  have H1 := Aside0.mk h1
  clear h1
  have H2 := Aside0.mk h2
  clear h2
  go_enter Tryz.func101, Tryz.ntmps101
  go_wp2_with fail
  refine (varint_Take.calls k a0 n b1 0 _ H1.out).mono ?_
  rintro e w1 ⟨rfl, hb1⟩
  have o1 := blk_below (blk_new _ _) hb1
  have B1 := below_seq ((Below.refl w.heap.size w).alloc (Nat.le_refl _) _) (by simp) hb1
  have z1 : w.heap.size < w1.heap.size := blk_lt o1
  obtain ⟨c0, c1, c2, c3, hf⟩ := four o1
  clear hb1
  go_wp2_with fail
  refine wp_loop_rounds 2 ?_
  rw [rounds_succ]
  go_wp2_with fail
  refine (varint_OfText.calls k b1 key b2 e2 _ H2.out).mono ?_
  rintro e w2 ⟨rfl, hb2⟩
  have o2 := blk_below (blk_alloc (blk_alloc o1 _) _) hb2
  have r2 : w2.heap[w1.heap.size]? = some (.cells #[.int .u64 (n / 2), .string ⟨#[]⟩, .string ⟨#[]⟩, .bool true] 50) := blk_below (blk_alloc (blk_new w1 _) _) hb2
  have t2 : w2.heap[w1.heap.size + 1]? = some (.cells #[.pointer (some ⟨w1.heap.size, 1, none⟩), .pointer (some ⟨w1.heap.size, 2, none⟩)] 174) := by
    refine blk_below ?_ hb2
    have := heap_alloc_new (w1.alloc (.cells #[.int .u64 (n / 2), .string ⟨#[]⟩, .string ⟨#[]⟩, .bool true] 50)) (.cells #[.pointer (some ⟨w1.heap.size, 1, none⟩), .pointer (some ⟨w1.heap.size, 2, none⟩)] 174)
    simpa using this
  have B2 := below_seq ((B1.alloc (by omega) _).alloc (by simp; omega) _) (by simp; omega) hb2
  have z2 : w1.heap.size + 1 < w2.heap.size := blk_lt t2
  obtain ⟨p0, p1, p2, p3, pf⟩ := four o2
  obtain ⟨q0, q1, q2, q3, qf⟩ := four r2
  obtain ⟨s0, s1, sf⟩ := two t2
  clear hb2 c0 c1 c2 c3 hf
  go_wp2_with fail
  refine bodyPost_ret (results_ctt rfl _ _ w.heap.size 50 #[.int .u64 0, .string ⟨#[]⟩, .string ⟨#[]⟩, .bool false] (0, 0) _ rfl (set4 _ _ _ _ (blk_set_other o2 _ _ (by omega) _)) Tryz.underlying50 rfl rfl) rfl ⟨rfl, below4 (Below.setCell B2 (by show w.heap.size ≤ w1.heap.size; omega) _) (Nat.le_refl _) _ _ _ _⟩
set_option maxHeartbeats 1600000 in
set_option maxRecDepth 100000 in
theorem record_Read.gone (k : Nat) (a0 : ByteArray) (n : Int) (b1 key b2 : ByteArray) (ok : Bool) (w : World) (h1 : varint_Take.f k a0 = some (n, b1, 0)) (hg : (Go.bits .and .u64 n 1 == 1) = true) (h2 : varint_OfText.f k b1 = some (key, b2, 0)) (h4 : record_Right.f k (n / 2) key ⟨#[]⟩ true = some ok) :
    Calls Tryz.prog 101 #[.string a0] w fun e w' => e = .returned (if ok then .tuple #[.agg #[.int .u64 (n / 2), .string key, .string ⟨#[]⟩, .bool true], .string b2, .int .i64 0] else .tuple #[.agg #[.int .u64 0, .string ⟨#[]⟩, .string ⟨#[]⟩, .bool false], .string ⟨#[]⟩, .int .i64 2]) ∧ Below w.heap.size w w' := by
  have H1 := Aside0.mk h1
  clear h1
  have H2 := Aside0.mk h2
  clear h2
  have H4 := Aside0.mk h4
  clear h4
  go_enter Tryz.func101, Tryz.ntmps101
  go_wp2_with fail
  refine (varint_Take.calls k a0 n b1 0 _ H1.out).mono ?_
  rintro e w1 ⟨rfl, hb1⟩
  have o1 := blk_below (blk_new _ _) hb1
  have B1 := below_seq ((Below.refl w.heap.size w).alloc (Nat.le_refl _) _) (by simp) hb1
  have z1 : w.heap.size < w1.heap.size := blk_lt o1
  obtain ⟨c0, c1, c2, c3, hf⟩ := four o1
  clear hb1
  go_wp2_with fail
  refine wp_loop_rounds 2 ?_
  rw [rounds_succ]
  go_wp2_with fail
  refine (varint_OfText.calls k b1 key b2 0 _ H2.out).mono ?_
  rintro e w2 ⟨rfl, hb2⟩
  have o2 := blk_below (blk_alloc (blk_alloc o1 _) _) hb2
  have r2 : w2.heap[w1.heap.size]? = some (.cells #[.int .u64 (n / 2), .string ⟨#[]⟩, .string ⟨#[]⟩, .bool true] 50) := blk_below (blk_alloc (blk_new w1 _) _) hb2
  have t2 : w2.heap[w1.heap.size + 1]? = some (.cells #[.pointer (some ⟨w1.heap.size, 1, none⟩), .pointer (some ⟨w1.heap.size, 2, none⟩)] 174) := by
    refine blk_below ?_ hb2
    have := heap_alloc_new (w1.alloc (.cells #[.int .u64 (n / 2), .string ⟨#[]⟩, .string ⟨#[]⟩, .bool true] 50)) (.cells #[.pointer (some ⟨w1.heap.size, 1, none⟩), .pointer (some ⟨w1.heap.size, 2, none⟩)] 174)
    simpa using this
  have B2 := below_seq ((B1.alloc (by omega) _).alloc (by simp; omega) _) (by simp; omega) hb2
  have z2 : w1.heap.size + 1 < w2.heap.size := blk_lt t2
  obtain ⟨p0, p1, p2, p3, pf⟩ := four o2
  obtain ⟨q0, q1, q2, q3, qf⟩ := four r2
  obtain ⟨s0, s1, sf⟩ := two t2
  clear hb2 c0 c1 c2 c3 hf
  go_wp2_with fail
  rw [rounds_succ]
  go_wp2_with fail
  refine (record_Right.calls k (n / 2) key ⟨#[]⟩ true ok _ H4.out).mono ?_
  rintro e w4 ⟨rfl, hb4⟩
  have o4 := blk_below (blk_set_other o2 _ _ (by omega) _) hb4
  have r4 : w4.heap[w1.heap.size]? = some (.cells #[.int .u64 (n / 2), .string key, .string ⟨#[]⟩, .bool true] 50) := blk_below (blk_set_same 1 (.string key) r2 rfl) hb4
  have z4 : w1.heap.size < w4.heap.size := blk_lt r4
  have B4 := below_seq (Below.setCell B2 (by show w.heap.size ≤ w1.heap.size; omega) _) (by simp; omega) hb4
  obtain ⟨u0, u1, u2, u3, uf⟩ := four o4
  obtain ⟨v0, v1, v2, v3, vf⟩ := four r4
  clear hb4 p0 p1 p2 p3 pf q0 q1 q2 q3 qf s0 s1 sf
  cases ok with
  | false =>
    go_wp2_with fail
    refine bodyPost_ret (results_ctt rfl _ _ w.heap.size 50 #[.int .u64 0, .string ⟨#[]⟩, .string ⟨#[]⟩, .bool false] (0, 0) _ rfl (set4 _ _ _ _ o4) Tryz.underlying50 rfl rfl) rfl ⟨rfl, below4 B4 (Nat.le_refl _) _ _ _ _⟩
  | true =>
    go_wp2_with fail
    refine bodyPost_ret (results_ctt rfl _ _ w.heap.size 50 #[.int .u64 (n / 2), .string key, .string ⟨#[]⟩, .bool true] (0, 0) _ rfl (set4 _ _ _ _ o4) Tryz.underlying50 rfl rfl) rfl ⟨rfl, below4 B4 (Nat.le_refl _) _ _ _ _⟩
set_option maxHeartbeats 1600000 in
set_option maxRecDepth 100000 in
theorem record_Read.second (k : Nat) (a0 : ByteArray) (n : Int) (b1 key b2 val b3 : ByteArray) (e3 : Int) (w : World) (h1 : varint_Take.f k a0 = some (n, b1, 0)) (hg : (Go.bits .and .u64 n 1 == 1) = false) (h2 : varint_OfText.f k b1 = some (key, b2, 0)) (h3 : varint_OfText.f k b2 = some (val, b3, e3)) (he : ¬ e3 = 0) :
    Calls Tryz.prog 101 #[.string a0] w fun e w' => e = .returned (.tuple #[.agg #[.int .u64 0, .string ⟨#[]⟩, .string ⟨#[]⟩, .bool false], .string ⟨#[]⟩, .int .i64 e3]) ∧ Below w.heap.size w w' := by
  have H1 := Aside0.mk h1
  clear h1
  have H2 := Aside0.mk h2
  clear h2
  have H3 := Aside0.mk h3
  clear h3
  go_enter Tryz.func101, Tryz.ntmps101
  go_wp2_with fail
  refine (varint_Take.calls k a0 n b1 0 _ H1.out).mono ?_
  rintro e w1 ⟨rfl, hb1⟩
  have o1 := blk_below (blk_new _ _) hb1
  have B1 := below_seq ((Below.refl w.heap.size w).alloc (Nat.le_refl _) _) (by simp) hb1
  have z1 : w.heap.size < w1.heap.size := blk_lt o1
  obtain ⟨c0, c1, c2, c3, hf⟩ := four o1
  clear hb1
  go_wp2_with fail
  refine wp_loop_rounds 3 ?_
  rw [rounds_succ]
  go_wp2_with fail
  refine (varint_OfText.calls k b1 key b2 0 _ H2.out).mono ?_
  rintro e w2 ⟨rfl, hb2⟩
  have o2 := blk_below (blk_alloc (blk_alloc o1 _) _) hb2
  have r2 : w2.heap[w1.heap.size]? = some (.cells #[.int .u64 (n / 2), .string ⟨#[]⟩, .string ⟨#[]⟩, .bool false] 50) := blk_below (blk_alloc (blk_new w1 _) _) hb2
  have t2 : w2.heap[w1.heap.size + 1]? = some (.cells #[.pointer (some ⟨w1.heap.size, 1, none⟩), .pointer (some ⟨w1.heap.size, 2, none⟩)] 174) := by
    refine blk_below ?_ hb2
    have := heap_alloc_new (w1.alloc (.cells #[.int .u64 (n / 2), .string ⟨#[]⟩, .string ⟨#[]⟩, .bool false] 50)) (.cells #[.pointer (some ⟨w1.heap.size, 1, none⟩), .pointer (some ⟨w1.heap.size, 2, none⟩)] 174)
    simpa using this
  have B2 := below_seq ((B1.alloc (by omega) _).alloc (by simp; omega) _) (by simp; omega) hb2
  have z2 : w1.heap.size + 1 < w2.heap.size := blk_lt t2
  obtain ⟨p0, p1, p2, p3, pf⟩ := four o2
  obtain ⟨q0, q1, q2, q3, qf⟩ := four r2
  obtain ⟨s0, s1, sf⟩ := two t2
  clear hb2 c0 c1 c2 c3 hf
  go_wp2_with fail
  rw [rounds_succ]
  go_wp2_with fail
  refine (varint_OfText.calls k b2 val b3 e3 _ H3.out).mono ?_
  rintro e w3 ⟨rfl, hb3⟩
  have o3 := blk_below (blk_set_other o2 _ _ (by omega) _) hb3
  have r3 : w3.heap[w1.heap.size]? = some (.cells #[.int .u64 (n / 2), .string key, .string ⟨#[]⟩, .bool false] 50) := blk_below (blk_set_same 1 (.string key) r2 rfl) hb3
  have t3 := blk_below (blk_set_other t2 w1.heap.size 1 (by omega) (.string key)) hb3
  have z3 : w1.heap.size + 1 < w3.heap.size := blk_lt t3
  have B3 := below_seq (Below.setCell B2 (by show w.heap.size ≤ w1.heap.size; omega) _) (by simp; omega) hb3
  clear hb3 p0 p1 p2 p3 pf q0 q1 q2 q3 qf s0 s1 sf
  obtain ⟨p0, p1, p2, p3, pf⟩ := four o3
  obtain ⟨q0, q1, q2, q3, qf⟩ := four r3
  obtain ⟨s0, s1, sf⟩ := two t3
  go_wp2_with fail
  refine bodyPost_ret (results_ctt rfl _ _ w.heap.size 50 #[.int .u64 0, .string ⟨#[]⟩, .string ⟨#[]⟩, .bool false] (0, 0) _ rfl (set4 _ _ _ _ (blk_set_other o3 _ _ (by omega) _)) Tryz.underlying50 rfl rfl) rfl ⟨rfl, below4 (Below.setCell B3 (by show w.heap.size ≤ w1.heap.size; omega) _) (Nat.le_refl _) _ _ _ _⟩
set_option maxHeartbeats 1600000 in
set_option maxRecDepth 100000 in
theorem record_Read.both (k : Nat) (a0 : ByteArray) (n : Int) (b1 key b2 val b3 : ByteArray) (ok : Bool) (w : World) (h1 : varint_Take.f k a0 = some (n, b1, 0)) (hg : (Go.bits .and .u64 n 1 == 1) = false) (h2 : varint_OfText.f k b1 = some (key, b2, 0)) (h3 : varint_OfText.f k b2 = some (val, b3, 0)) (h4 : record_Right.f k (n / 2) key val false = some ok) :
    Calls Tryz.prog 101 #[.string a0] w fun e w' => e = .returned (if ok then .tuple #[.agg #[.int .u64 (n / 2), .string key, .string val, .bool false], .string b3, .int .i64 0] else .tuple #[.agg #[.int .u64 0, .string ⟨#[]⟩, .string ⟨#[]⟩, .bool false], .string ⟨#[]⟩, .int .i64 2]) ∧ Below w.heap.size w w' := by
  have H1 := Aside0.mk h1
  clear h1
  have H2 := Aside0.mk h2
  clear h2
  have H4 := Aside0.mk h4
  clear h4
  have H3 := Aside0.mk h3
  clear h3
  go_enter Tryz.func101, Tryz.ntmps101
  go_wp2_with fail
  refine (varint_Take.calls k a0 n b1 0 _ H1.out).mono ?_
  rintro e w1 ⟨rfl, hb1⟩
  have o1 := blk_below (blk_new _ _) hb1
  have B1 := below_seq ((Below.refl w.heap.size w).alloc (Nat.le_refl _) _) (by simp) hb1
  have z1 : w.heap.size < w1.heap.size := blk_lt o1
  obtain ⟨c0, c1, c2, c3, hf⟩ := four o1
  clear hb1
  go_wp2_with fail
  refine wp_loop_rounds 3 ?_
  rw [rounds_succ]
  go_wp2_with fail
  refine (varint_OfText.calls k b1 key b2 0 _ H2.out).mono ?_
  rintro e w2 ⟨rfl, hb2⟩
  have o2 := blk_below (blk_alloc (blk_alloc o1 _) _) hb2
  have r2 : w2.heap[w1.heap.size]? = some (.cells #[.int .u64 (n / 2), .string ⟨#[]⟩, .string ⟨#[]⟩, .bool false] 50) := blk_below (blk_alloc (blk_new w1 _) _) hb2
  have t2 : w2.heap[w1.heap.size + 1]? = some (.cells #[.pointer (some ⟨w1.heap.size, 1, none⟩), .pointer (some ⟨w1.heap.size, 2, none⟩)] 174) := by
    refine blk_below ?_ hb2
    have := heap_alloc_new (w1.alloc (.cells #[.int .u64 (n / 2), .string ⟨#[]⟩, .string ⟨#[]⟩, .bool false] 50)) (.cells #[.pointer (some ⟨w1.heap.size, 1, none⟩), .pointer (some ⟨w1.heap.size, 2, none⟩)] 174)
    simpa using this
  have B2 := below_seq ((B1.alloc (by omega) _).alloc (by simp; omega) _) (by simp; omega) hb2
  have z2 : w1.heap.size + 1 < w2.heap.size := blk_lt t2
  obtain ⟨p0, p1, p2, p3, pf⟩ := four o2
  obtain ⟨q0, q1, q2, q3, qf⟩ := four r2
  obtain ⟨s0, s1, sf⟩ := two t2
  clear hb2 c0 c1 c2 c3 hf
  go_wp2_with fail
  rw [rounds_succ]
  go_wp2_with fail
  refine (varint_OfText.calls k b2 val b3 0 _ H3.out).mono ?_
  rintro e w3 ⟨rfl, hb3⟩
  have o3 := blk_below (blk_set_other o2 _ _ (by omega) _) hb3
  have r3 : w3.heap[w1.heap.size]? = some (.cells #[.int .u64 (n / 2), .string key, .string ⟨#[]⟩, .bool false] 50) := blk_below (blk_set_same 1 (.string key) r2 rfl) hb3
  have t3 := blk_below (blk_set_other t2 w1.heap.size 1 (by omega) (.string key)) hb3
  have z3 : w1.heap.size + 1 < w3.heap.size := blk_lt t3
  have B3 := below_seq (Below.setCell B2 (by show w.heap.size ≤ w1.heap.size; omega) _) (by simp; omega) hb3
  clear hb3 p0 p1 p2 p3 pf q0 q1 q2 q3 qf s0 s1 sf
  obtain ⟨p0, p1, p2, p3, pf⟩ := four o3
  obtain ⟨q0, q1, q2, q3, qf⟩ := four r3
  obtain ⟨s0, s1, sf⟩ := two t3
  go_wp2_with fail
  rw [rounds_succ]
  go_wp2_with fail
  refine (record_Right.calls k (n / 2) key val false ok _ H4.out).mono ?_
  rintro e w4 ⟨rfl, hb4⟩
  have o4 := blk_below (blk_set_other o3 _ _ (by omega) _) hb4
  have r4 : w4.heap[w1.heap.size]? = some (.cells #[.int .u64 (n / 2), .string key, .string val, .bool false] 50) := blk_below (blk_set_same 2 (.string val) r3 rfl) hb4
  have z4 : w1.heap.size < w4.heap.size := blk_lt r4
  have B4 := below_seq (Below.setCell B3 (by show w.heap.size ≤ w1.heap.size; omega) _) (by simp; omega) hb4
  obtain ⟨u0, u1, u2, u3, uf⟩ := four o4
  obtain ⟨v0, v1, v2, v3, vf⟩ := four r4
  clear hb4 p0 p1 p2 p3 pf q0 q1 q2 q3 qf s0 s1 sf
  cases ok with
  | false =>
    go_wp2_with fail
    refine bodyPost_ret (results_ctt rfl _ _ w.heap.size 50 #[.int .u64 0, .string ⟨#[]⟩, .string ⟨#[]⟩, .bool false] (0, 0) _ rfl (set4 _ _ _ _ o4) Tryz.underlying50 rfl rfl) rfl ⟨rfl, below4 B4 (Nat.le_refl _) _ _ _ _⟩
  | true =>
    go_wp2_with fail
    refine bodyPost_ret (results_ctt rfl _ _ w.heap.size 50 #[.int .u64 (n / 2), .string key, .string val, .bool false] (0, 0) _ rfl (set4 _ _ _ _ o4) Tryz.underlying50 rfl rfl) rfl ⟨rfl, below4 B4 (Nat.le_refl _) _ _ _ _⟩
def record_Read.f (k : Nat) (a0 : ByteArray) : Option (Int × ByteArray × ByteArray × Bool × ByteArray × Int) :=
  (varint_Take.f k a0).bind fun (n, b1, e1) => if e1 = 0 then (if (Go.bits .and .u64 n 1 == 1) = true
    then ((varint_OfText.f k b1).bind fun (key, b2, e2) => if e2 = 0 then ((record_Right.f k (n / 2) key ⟨#[]⟩ true).bind fun ok => if ok = true then some (n / 2, key, ⟨#[]⟩, true, b2, 0) else some (0, ⟨#[]⟩, ⟨#[]⟩, false, ⟨#[]⟩, 2)) else some (0, ⟨#[]⟩, ⟨#[]⟩, false, ⟨#[]⟩, e2))
    else ((varint_OfText.f k b1).bind fun (key, b2, e2) => if e2 = 0 then ((varint_OfText.f k b2).bind fun (val, b3, e3) => if e3 = 0 then ((record_Right.f k (n / 2) key val false).bind fun ok => if ok = true then some (n / 2, key, val, false, b3, 0) else some (0, ⟨#[]⟩, ⟨#[]⟩, false, ⟨#[]⟩, 2)) else some (0, ⟨#[]⟩, ⟨#[]⟩, false, ⟨#[]⟩, e3)) else some (0, ⟨#[]⟩, ⟨#[]⟩, false, ⟨#[]⟩, e2)))
    else some (0, ⟨#[]⟩, ⟨#[]⟩, false, ⟨#[]⟩, e1)
theorem record_Read.mono : ∀ a0 k, LeO (record_Read.f k a0) (record_Read.f (k + 1) a0) := by
  intro a0 k
  unfold record_Read.f
  repeat' first
      | (with_reducible exact varint_Take.mono _ _)
      | (with_reducible exact varint_OfText.mono _ _)
      | (with_reducible exact record_Right.mono _ _ _ _ _)
      | (with_reducible exact LeO.refl _)
      | (with_reducible refine LeO.ite ?_ ?_)
      | (with_reducible refine LeO.bind ?_ (fun _ => ?_))
theorem record_Read.calls (k : Nat) (a0 : ByteArray) (r1 : Int) (r2 r3 : ByteArray) (r4 : Bool) (r5 : ByteArray) (r6 : Int) (w : World) (h : record_Read.f k a0 = some (r1, r2, r3, r4, r5, r6)) :
    Calls Tryz.prog 101 #[.string a0] w fun e w' => e = .returned (.tuple #[.agg #[.int .u64 r1, .string r2, .string r3, .bool r4], .string r5, .int .i64 r6]) ∧ Below w.heap.size w w' := by
  unfold record_Read.f at h
  obtain ⟨⟨n, b1, e1⟩, h1, h⟩ := Option.bind_eq_some_iff.mp h
  simp only at h
  by_cases he1 : e1 = 0
  case neg =>
    rw [if_neg he1] at h
    cases h
    exact record_Read.early k a0 n b1 _ w h1 he1
  subst he1
  rw [if_pos rfl] at h
  cases hg : (Go.bits .and .u64 n 1 == 1) with
  | true =>
    rw [if_pos hg] at h
    obtain ⟨⟨key, b2, e2⟩, h2, h⟩ := Option.bind_eq_some_iff.mp h
    simp only at h
    by_cases he2 : e2 = 0
    case neg =>
      rw [if_neg he2] at h
      cases h
      exact record_Read.goneFirst k a0 n b1 key b2 _ w h1 hg h2 he2
    subst he2
    rw [if_pos rfl] at h
    obtain ⟨ok, h4, h⟩ := Option.bind_eq_some_iff.mp h
    have hx := record_Read.gone k a0 n b1 key b2 ok w h1 hg h2 h4
    cases ok <;> (cases h; exact hx)
  | false =>
    rw [if_neg (by rw [hg]; decide)] at h
    obtain ⟨⟨key, b2, e2⟩, h2, h⟩ := Option.bind_eq_some_iff.mp h
    simp only at h
    by_cases he2 : e2 = 0
    case neg =>
      rw [if_neg he2] at h
      cases h
      exact record_Read.first k a0 n b1 key b2 _ w h1 hg h2 he2
    subst he2
    rw [if_pos rfl] at h
    obtain ⟨⟨val, b3, e3⟩, h3, h⟩ := Option.bind_eq_some_iff.mp h
    simp only at h
    by_cases he3 : e3 = 0
    case neg =>
      rw [if_neg he3] at h
      cases h
      exact record_Read.second k a0 n b1 key b2 val b3 _ w h1 hg h2 h3 he3
    subst he3
    rw [if_pos rfl] at h
    obtain ⟨ok, h4, h⟩ := Option.bind_eq_some_iff.mp h
    have hx := record_Read.both k a0 n b1 key b2 val b3 ok w h1 hg h2 h3 h4
    cases ok <;> (cases h; exact hx)

/-! ### record_List: function 140 -/
def record_List.l0 : Nat → ByteArray → List (S50) → Option ((List (S50)) × Int)
 | 0,_,_ => none
 | k + 1,x0,x4 => if x0.toList = ([] : List UInt8) then (some (x4,0)) else ((record_Read.f k x0).bind fun bt151 => (if bt151.2.2.2.2.2 = 0 then (if x4.length < 2932031007402 then (record_List.l0 k bt151.2.2.2.2.1 (x4 ++ [(⟨bt151.1,bt151.2.1,bt151.2.2.1,bt151.2.2.2.1⟩ : S50)])) else (none)) else (some (([] : List (S50)),bt151.2.2.2.2.2))))
def record_List.f (k : Nat) (a0 : ByteArray) : Option ((List (S50)) × Int):=record_List.l0 k a0 ([] : List (S50))
theorem record_List.mono_l : ∀ k,(∀ y0 y1,LeO (record_List.l0 k y0 y1) (record_List.l0 (k + 1) y0 y1))
 | 0 => fun _ _ r h => by simp [record_List.l0] at h
 | k + 1 => by
  have ih0:=record_List.mono_l k
  ·intro y0 y1
   unfold record_List.l0
   repeat' first
   | (with_reducible exact ih0 _ _)
   | (with_reducible exact record_Read.mono _ _)
   | (with_reducible exact LeO.refl _)
   | (with_reducible exact LeO.none _)
   | (with_reducible refine LeO.ite ?_ ?_)
   | (with_reducible refine LeO.bind ?_ (fun _ => ?_))
   | exact ih0 _ _
   | exact record_Read.mono _ _
   | exact LeO.none _
   | refine LeO.ite ?_ ?_
   | refine LeO.bind ?_ (fun _ => ?_)
theorem record_List.mono : ∀ a0 k,LeO (record_List.f k a0) (record_List.f (k + 1) a0):=by
 intro a0 k
 have ih0:=record_List.mono_l k
 unfold record_List.f
 repeat' first
   | (with_reducible exact ih0 _ _)
   | (with_reducible exact record_Read.mono _ _)
   | (with_reducible exact LeO.refl _)
   | (with_reducible exact LeO.none _)
   | (with_reducible refine LeO.ite ?_ ?_)
   | (with_reducible refine LeO.bind ?_ (fun _ => ?_))
   | exact ih0 _ _
   | exact record_Read.mono _ _
   | exact LeO.none _
   | refine LeO.ite ?_ ?_
   | refine LeO.bind ?_ (fun _ => ?_)
set_option maxHeartbeats 8000000 in
set_option maxRecDepth 100000 in
theorem record_List.calls (k : Nat) (a0 : ByteArray) (r1 : List (S50)) (r2 : Int) (w : World) (h : record_List.f k a0 = some (r1,r2)) :
  Calls Tryz.prog 140 #[.string a0] w fun e w' => ∃ v0_ : Value,e = .returned (.tuple #[v0_,.int .i64 r2]) ∧ Kd.R k50 50 w' w.heap.size (fun _ => True) v0_ r1 ∧ Below w.heap.size w w' := by
 have hu50:=Tryz.underlying50
 have HB:=Aside0.mk (Below.refl w.heap.size w)
 have H : (record_List.l0 k a0 ([] : List (S50))) = some (r1,r2):=h
 clear h
 have H' := Aside0.mk H
 clear H
 go_enter Tryz.func140,Tryz.ntmps140
 go_wp2
 go_loopg [0,4] k (fun kq v0 v4 w' => ∃ (x0_1 : ByteArray) (x4_1 : List (S50)),v0 = .string x0_1 ∧ Aside0 (record_List.l0 kq x0_1 x4_1 = some (r1,r2)) ∧ Aside0 (kq ≤ k) ∧ Aside0 (Kd.R k50 50 w' w.heap.size (fun _ => True) v4 x4_1) ∧ Aside0 (Below w.heap.size w w'))
 case atStart => exact ⟨(a0),(([] : List (S50))),(by first | rfl | (simp;done) | (simp [*];done)),H',⟨Nat.le_refl _⟩,⟨by first | exact Kd.R_nil _ _ _ _ _ | exact Kd.N_nil _ _ _ _ _ | exact Kd.V_nil _ _ _ _ _ | exact Kd.Q_nil _ _ _ _ _ | exact Kd.S_nil _ _ _ _ _⟩,⟨by repeat (first | (with_reducible first | exact HB.out | apply below_alloc | apply pw_below_drewN | apply below_drew1) | exact HB.out)⟩⟩
 case round =>
  clear H'
  try clear c1
  obtain ⟨x0_1,x4_1,rfl,HA,HK1,HO_4,HB⟩:=hrel
  cases gk with
  | zero => exact absurd HA.out (by simp [record_List.l0])
  | succ k1 =>
   have H:=HA.out
   clear HA
   simp only [record_List.l0] at H
   by_cases c2 : x0_1.toList = ([] : List UInt8)
   ·rw [if_pos c2] at H
    have c2b0 : (x0_1.toList == ([] : List UInt8)) = true:=beq_iff_eq.mpr c2
    have c2b1 : (x0_1.toList != ([] : List UInt8)) = false:=bne_eq_false_iff_eq.mpr c2
    clear c2
    simp only [Option.some.injEq,Prod.mk.injEq] at H
    obtain ⟨rfl,rfl⟩:=H
    go_wp2
    go_ret2
    exact ⟨_,by first | rfl | (simp [errW_none,errW_some] <;> rfl) | (simp [*,errW_none,errW_some] <;> rfl) | (simp [errW_none,errW_some];exact isEmpty_bne _),by (with_reducible repeat (first | apply Kd.R_alloc | apply Kd.R_drewN | apply Kd.R_drew));exact HO_4.out,by repeat (first | (with_reducible first | exact HB.out | apply below_alloc | apply pw_below_drewN | apply below_drew1) | exact HB.out)⟩
   ·rw [if_neg c2] at H
    have c2b0 : (x0_1.toList == ([] : List UInt8)) = false:=beq_eq_false_iff_ne.mpr c2
    have c2b1 : (x0_1.toList != ([] : List UInt8)) = true:=bne_iff_ne.mpr c2
    replace H:=Option.bind_eq_some_iff.mp H
    obtain ⟨⟨t151,t152,t153,t154,t155,t156⟩,A30,H⟩:=H
    replace H : (if t156 = 0 then (if x4_1.length < 2932031007402 then (record_List.l0 k1 t155 (x4_1 ++ [(⟨t151,t152,t153,t154⟩ : S50)])) else (none)) else (some (([] : List (S50)),t156))) = some (r1,r2):=H
    have A3:=Aside0.mk A30
    clear A30
    by_cases c4 : t156 = 0
    ·rw [if_pos c4] at H
     have c4b0 : (t156 == 0) = true:=beq_iff_eq.mpr c4
     have c4b1 : (t156 != 0) = false:=bne_eq_false_iff_eq.mpr c4
     clear c4
     by_cases c5 : x4_1.length < 2932031007402
     ·rw [if_pos c5] at H
      have LMc5:=Aside0.mk c5
      clear c5
      obtain ⟨y158,hy158⟩ : ∃ y_ : List (S50),y_ = (x4_1 ++ [(⟨t151,t152,t153,t154⟩ : S50)]):=⟨_,rfl⟩
      replace H : (record_List.l0 k1 t155 y158) = some (r1,r2):=by first | (rw [hy158];with_reducible exact H) | (have H2_:=(Option.bind_some _ _).symm.trans H;rw [hy158];with_reducible exact H2_) | (have H2_:=(Option.bind_some _ _).symm.trans H;with_reducible exact H2_) | with_reducible exact H | (rw [hy158];exact H) | exact H
      have Ny158:=Aside0.mk hy158
      clear hy158
      have H' := Aside0.mk H
      clear H
      go_wp2_with (first | ((with_reducible refine gate_callee (f:=101) rfl ?_);refine goesL_ (some 12) rfl rfl Tryz.func101 (by kernel_rfl) rfl #[.string x0_1] rfl (by (try simp only [List.map_toArray,List.map_cons,List.map_nil]);first | done | rfl | (simp only [List.length_drop,List.length_take];rfl)) ?_;(with_reducible refine (record_Read.calls k1 x0_1 t151 t152 t153 t154 t155 t156 _ A3.out).mono ?_);rintro e w6 ⟨rfl,hb⟩;refine ⟨_,rfl,?_⟩;have n0_:=Aside0.mk (Kd.R_below (by (with_reducible repeat (first | apply Kd.R_alloc | apply Kd.R_drewN | apply Kd.R_drew));exact HO_4.out) hb);have n1_:=Aside0.mk (below_step (by repeat (first | (with_reducible first | exact HB.out | apply below_alloc | apply pw_below_drewN | apply below_drew1) | exact HB.out)) hb);clear HO_4;clear HB;have HO_4:=n0_;have HB:=n1_;clear n0_ n1_;(try clear hb);(try clear hb2);(try clear hk);(try clear hi)) | ((with_reducible refine gate_dst (N:=5) rfl ?_);refine box_event ?hg (N:=5) ?hd (cs := #[.int .u64 0,.string (⟨#[]⟩ : ByteArray),.string (⟨#[]⟩ : ByteArray),.bool false]) (t:=50) ?hr ?_;(case hd => rfl);(case hg => rfl);(case hr => first | (go_simp;done) | (go_simp;rfl));intro gb157 hg w7 hbox hb;have n0_:=Aside0.mk (Kd.R_below (Kd.R_elderB (by (with_reducible repeat (first | apply Kd.R_alloc | apply Kd.R_drewN | apply Kd.R_drew));exact HO_4.out) gb157 (Nat.le_of_eq hg.symm)) hb);have n1_:=Aside0.mk (below_step (by repeat (first | (with_reducible first | exact HB.out | apply below_alloc | apply pw_below_drewN | apply below_drew1) | exact HB.out)) hb);have n2_:=Aside0.mk (hbox);have n3_:=Aside0.mk ((by rw [hg];exact (below_size (by repeat (first | (with_reducible first | exact HB.out | apply below_alloc | apply pw_below_drewN | apply below_drew1) | exact HB.out))) : w.heap.size ≤ gb157));have n4_:=Aside0.mk ((by rw [hg];exact (below_size (by repeat (first | (with_reducible first | exact HB.out | apply below_alloc | apply pw_below_drewN | apply below_drew1) | exact HB.out))) : w.heap.size ≤ gb157));clear HO_4;clear HB;have HO_4:=n0_;have HB:=n1_;have BK157:=n2_;have GW157:=n3_;have GE157:=n4_;clear n0_ n1_ n2_ n3_ n4_;clear hb hbox hg;have hcz8_0 : w7.cell? ⟨gb157,0,none⟩ = some (.int .u64 0):=(blk_cell BK157.out 0).trans rfl;have hcz8_1 : w7.cell? ⟨gb157,1,none⟩ = some (.string (⟨#[]⟩ : ByteArray)):=(blk_cell BK157.out 1).trans rfl;have hcz8_2 : w7.cell? ⟨gb157,2,none⟩ = some (.string (⟨#[]⟩ : ByteArray)):=(blk_cell BK157.out 2).trans rfl;have hcz8_3 : w7.cell? ⟨gb157,3,none⟩ = some (.bool false):=(blk_cell BK157.out 3).trans rfl;have hfz8_0:=blk_frozen BK157.out 0;have hfz8_1:=blk_frozen BK157.out 1;have hfz8_2:=blk_frozen BK157.out 2;have hfz8_3:=blk_frozen BK157.out 3) | ((with_reducible refine gate_builtin (b := .append) (xs := #[.tmp 19,.tmp 21]) rfl ?_);at_builtin;refine Kd.R_append k50 (w0:=w) w.heap.size rfl (.tmp 19) (.tmp 21) 36 50 (.agg #[(.int .u64 0),(.string ⟨#[]⟩),(.string ⟨#[]⟩),(.bool false)]) 48 rfl Tryz.underlying36 info50 rfl (by decide) (by omega) u4 x4_1 (⟨t151,t152,t153,t154⟩ : S50) [.int .u64 t151,.string t152,.string t153,.bool t154] (fun k_ => k_ ≠ gb157) (fun _ => False) rfl (by first | (go_simp;done) | (go_simp;rfl)) ?aP (fun _ hk => hk.elim) ?aF ?aO ?aB ?aS ?aL ?_;(case aP => exact k50_mkM _ _ _ (⟨t151,t152,t153,t154⟩ : S50));(case aB => exact (by repeat (first | (with_reducible first | exact HB.out | apply below_alloc | apply pw_below_drewN | apply below_drew1 | refine below_set ?_ GE157.out) | exact HB.out)));(case aF => exact (fun k_ hk => Kd.freshB (g:=gb157) (o := .cells #[.int .u64 t151,.string t152,.string t153,.bool t154] 50 (0,0)) (by (with_reducible repeat (first | refine blk_drewN ?_ _ | refine blk_drew ?_ | refine blk_alloc ?_ _));refine blk_put (cs := #[.int .u64 t151,.string t152,.string t153,.bool false]) ?_ 3 _ rfl;(with_reducible repeat (first | refine blk_drewN ?_ _ | refine blk_drew ?_ | refine blk_alloc ?_ _));refine blk_put (cs := #[.int .u64 t151,.string t152,.string (⟨#[]⟩ : ByteArray),.bool false]) ?_ 2 _ rfl;(with_reducible repeat (first | refine blk_drewN ?_ _ | refine blk_drew ?_ | refine blk_alloc ?_ _));refine blk_put (cs := #[.int .u64 t151,.string (⟨#[]⟩ : ByteArray),.string (⟨#[]⟩ : ByteArray),.bool false]) ?_ 1 _ rfl;(with_reducible repeat (first | refine blk_drewN ?_ _ | refine blk_drew ?_ | refine blk_alloc ?_ _));refine blk_put (cs := #[.int .u64 0,.string (⟨#[]⟩ : ByteArray),.string (⟨#[]⟩ : ByteArray),.bool false]) ?_ 0 _ rfl;(with_reducible repeat (first | refine blk_drewN ?_ _ | refine blk_drew ?_ | refine blk_alloc ?_ _));exact BK157.out) k_ hk));(case aO => exact (by (with_reducible repeat (first | apply Kd.R_alloc | apply Kd.R_drewN | apply Kd.R_drew));exact Kd.R_mono (Kd.R_far (p:=⟨gb157,3,none⟩) (Kd.R_far (p:=⟨gb157,2,none⟩) (Kd.R_far (p:=⟨gb157,1,none⟩) (Kd.R_far (p:=⟨gb157,0,none⟩) (Kd.R_mono HO_4.out (fun k_ hk => (⟨hk,hk.2⟩ : _ ∧ k_ ≠ gb157))) (fun _ hk => hk.2) (.int .u64 t151)) (fun _ hk => hk.2) (.string t152)) (fun _ hk => hk.2) (.string t153)) (fun _ hk => hk.2) (.bool t154)) (fun _ hk => hk.1.2)));(case aS => exact (below_size (by repeat (first | (with_reducible first | exact HB.out | apply below_alloc | apply pw_below_drewN | apply below_drew1 | refine below_set ?_ GE157.out) | exact HB.out))));(case aL => have:=LMc5.out;omega);intro v159 w9 ho hb hg hat;rw [← Ny158.out] at ho;have n0_:=Aside0.mk (blk_grown (g:=gb157) (o := .cells #[.int .u64 t151,.string t152,.string t153,.bool t154] 50 (0,0)) (by (with_reducible repeat (first | refine blk_drewN ?_ _ | refine blk_drew ?_ | refine blk_alloc ?_ _));refine blk_put (cs := #[.int .u64 t151,.string t152,.string t153,.bool false]) ?_ 3 _ rfl;(with_reducible repeat (first | refine blk_drewN ?_ _ | refine blk_drew ?_ | refine blk_alloc ?_ _));refine blk_put (cs := #[.int .u64 t151,.string t152,.string (⟨#[]⟩ : ByteArray),.bool false]) ?_ 2 _ rfl;(with_reducible repeat (first | refine blk_drewN ?_ _ | refine blk_drew ?_ | refine blk_alloc ?_ _));refine blk_put (cs := #[.int .u64 t151,.string (⟨#[]⟩ : ByteArray),.string (⟨#[]⟩ : ByteArray),.bool false]) ?_ 1 _ rfl;(with_reducible repeat (first | refine blk_drewN ?_ _ | refine blk_drew ?_ | refine blk_alloc ?_ _));refine blk_put (cs := #[.int .u64 0,.string (⟨#[]⟩ : ByteArray),.string (⟨#[]⟩ : ByteArray),.bool false]) ?_ 0 _ rfl;(with_reducible repeat (first | refine blk_drewN ?_ _ | refine blk_drew ?_ | refine blk_alloc ?_ _));exact BK157.out) hg (Kd.R_away HO_4.out (fun _ hk => hk.2)));have n1_:=Aside0.mk (hb);have n2_:=Aside0.mk (ho);clear BK157;clear HB;clear HO_4;have BK157:=n0_;have HB:=n1_;have HO160:=n2_;clear n0_ n1_ n2_;clear ho hb hg hat))
      go_roundg k1
      case measure => have:=HK1.out;omega
      case rel => exact ⟨(t155),(y158),(by first | rfl | (simp;done) | (simp [*];done)),H',⟨by have:=HK1.out;omega⟩,⟨by (with_reducible repeat (first | apply Kd.R_alloc | apply Kd.R_drewN | apply Kd.R_drew));exact Kd.R_mono HO160.out (fun _ hk => trivial)⟩,⟨by repeat (first | (with_reducible first | exact HB.out | apply below_alloc | apply pw_below_drewN | apply below_drew1 | refine below_set ?_ GE157.out) | exact HB.out)⟩⟩
     ·rw [if_neg c5] at H
      exact absurd H (by simp)
    ·rw [if_neg c4] at H
     have c4b0 : (t156 == 0) = false:=beq_eq_false_iff_ne.mpr c4
     have c4b1 : (t156 != 0) = true:=bne_iff_ne.mpr c4
     simp only [Option.some.injEq,Prod.mk.injEq] at H
     obtain ⟨rfl,rfl⟩:=H
     go_wp2_with (first | ((with_reducible refine gate_callee (f:=101) rfl ?_);refine goesL_ (some 12) rfl rfl Tryz.func101 (by kernel_rfl) rfl #[.string x0_1] rfl (by (try simp only [List.map_toArray,List.map_cons,List.map_nil]);first | done | rfl | (simp only [List.length_drop,List.length_take];rfl)) ?_;(with_reducible refine (record_Read.calls k1 x0_1 t151 t152 t153 t154 t155 t156 _ A3.out).mono ?_);rintro e w10 ⟨rfl,hb⟩;refine ⟨_,rfl,?_⟩;have n0_:=Aside0.mk (Kd.R_below (by (with_reducible repeat (first | apply Kd.R_alloc | apply Kd.R_drewN | apply Kd.R_drew));exact HO_4.out) hb);have n1_:=Aside0.mk (below_step (by repeat (first | (with_reducible first | exact HB.out | apply below_alloc | apply pw_below_drewN | apply below_drew1) | exact HB.out)) hb);clear HO_4;clear HB;have HO_4:=n0_;have HB:=n1_;clear n0_ n1_;(try clear hb);(try clear hb2);(try clear hk);(try clear hi)) | ((with_reducible refine gate_dst (N:=5) rfl ?_);refine box_event ?hg (N:=5) ?hd (cs := #[.int .u64 0,.string (⟨#[]⟩ : ByteArray),.string (⟨#[]⟩ : ByteArray),.bool false]) (t:=50) ?hr ?_;(case hd => rfl);(case hg => rfl);(case hr => first | (go_simp;done) | (go_simp;rfl));intro gb157 hg w11 hbox hb;have n0_:=Aside0.mk (Kd.R_below (Kd.R_elderB (by (with_reducible repeat (first | apply Kd.R_alloc | apply Kd.R_drewN | apply Kd.R_drew));exact HO_4.out) gb157 (Nat.le_of_eq hg.symm)) hb);have n1_:=Aside0.mk (below_step (by repeat (first | (with_reducible first | exact HB.out | apply below_alloc | apply pw_below_drewN | apply below_drew1) | exact HB.out)) hb);have n2_:=Aside0.mk (hbox);have n3_:=Aside0.mk ((by rw [hg];exact (below_size (by repeat (first | (with_reducible first | exact HB.out | apply below_alloc | apply pw_below_drewN | apply below_drew1) | exact HB.out))) : w.heap.size ≤ gb157));have n4_:=Aside0.mk ((by rw [hg];exact (below_size (by repeat (first | (with_reducible first | exact HB.out | apply below_alloc | apply pw_below_drewN | apply below_drew1) | exact HB.out))) : w.heap.size ≤ gb157));clear HO_4;clear HB;have HO_4:=n0_;have HB:=n1_;have BK157:=n2_;have GW157:=n3_;have GE157:=n4_;clear n0_ n1_ n2_ n3_ n4_;clear hb hbox hg;have hcz12_0 : w11.cell? ⟨gb157,0,none⟩ = some (.int .u64 0):=(blk_cell BK157.out 0).trans rfl;have hcz12_1 : w11.cell? ⟨gb157,1,none⟩ = some (.string (⟨#[]⟩ : ByteArray)):=(blk_cell BK157.out 1).trans rfl;have hcz12_2 : w11.cell? ⟨gb157,2,none⟩ = some (.string (⟨#[]⟩ : ByteArray)):=(blk_cell BK157.out 2).trans rfl;have hcz12_3 : w11.cell? ⟨gb157,3,none⟩ = some (.bool false):=(blk_cell BK157.out 3).trans rfl;have hfz12_0:=blk_frozen BK157.out 0;have hfz12_1:=blk_frozen BK157.out 1;have hfz12_2:=blk_frozen BK157.out 2;have hfz12_3:=blk_frozen BK157.out 3))
     go_ret2
     exact ⟨_,by first | rfl | (simp [errW_none,errW_some] <;> rfl) | (simp [*,errW_none,errW_some] <;> rfl) | (simp [errW_none,errW_some];exact isEmpty_bne _),by first | exact Kd.R_nil _ _ _ _ _ | exact Kd.N_nil _ _ _ _ _ | exact Kd.V_nil _ _ _ _ _ | exact Kd.Q_nil _ _ _ _ _ | exact Kd.S_nil _ _ _ _ _,by repeat (first | (with_reducible first | exact HB.out | apply below_alloc | apply pw_below_drewN | apply below_drew1 | refine below_set ?_ GE157.out) | exact HB.out)⟩

/-! ### frame_Take: function 96 -/
def frame_Take.f (k : Nat) (a0 : ByteArray) : Option ((List (S50)) × Int × Int):=(varint_OfText.f k a0).bind fun bt161 => (if bt161.2.2 = 0 then ((crc_Open.f bt161.1).bind fun bt164 => (if bt164.2 = true then ((record_List.f k bt164.1).bind fun bt166 => (if bt166.2 = 0 then ((frame_fits.f (bt166.1.length : Int)).bind fun t170 => (if t170 = true then (some (bt166.1,wrap64 ((a0.size : Int) - (bt161.2.1.size : Int)),0)) else (some (([] : List (S50)),0,2)))) else (some (([] : List (S50)),0,2)))) else (some (([] : List (S50)),0,4)))) else (some (([] : List (S50)),0,bt161.2.2)))
theorem frame_Take.mono : ∀ a0 k,LeO (frame_Take.f k a0) (frame_Take.f (k + 1) a0):=by
 intro a0 k
 unfold frame_Take.f
 repeat' first
   | (with_reducible exact record_List.mono _ _)
   | (with_reducible exact varint_OfText.mono _ _)
   | (with_reducible exact LeO.refl _)
   | (with_reducible exact LeO.none _)
   | (with_reducible refine LeO.ite ?_ ?_)
   | (with_reducible refine LeO.bind ?_ (fun _ => ?_))
   | exact record_List.mono _ _
   | exact varint_OfText.mono _ _
   | exact LeO.none _
   | refine LeO.ite ?_ ?_
   | refine LeO.bind ?_ (fun _ => ?_)
set_option maxHeartbeats 8000000 in
set_option maxRecDepth 100000 in
theorem frame_Take.calls (k : Nat) (a0 : ByteArray) (r1 : List (S50)) (r2 : Int) (r3 : Int) (w : World) (h : frame_Take.f k a0 = some (r1,r2,r3)) :
  Calls Tryz.prog 96 #[.string a0] w fun e w' => ∃ v0_ : Value,e = .returned (.tuple #[v0_,.int .i64 r2,.int .i64 r3]) ∧ Kd.R k50 50 w' w.heap.size (fun _ => True) v0_ r1 ∧ Below w.heap.size w w' := by
 have HB:=Aside0.mk (Below.refl w.heap.size w)
 have H : ((varint_OfText.f k a0).bind fun bt161 => (if bt161.2.2 = 0 then ((crc_Open.f bt161.1).bind fun bt164 => (if bt164.2 = true then ((record_List.f k bt164.1).bind fun bt166 => (if bt166.2 = 0 then ((frame_fits.f (bt166.1.length : Int)).bind fun t170 => (if t170 = true then (some (bt166.1,wrap64 ((a0.size : Int) - (bt161.2.1.size : Int)),0)) else (some (([] : List (S50)),0,2)))) else (some (([] : List (S50)),0,2)))) else (some (([] : List (S50)),0,4)))) else (some (([] : List (S50)),0,bt161.2.2)))) = some (r1,r2,r3):=h
 clear h
 replace H:=Option.bind_eq_some_iff.mp H
 obtain ⟨⟨t161,t162,t163⟩,A20,H⟩:=H
 replace H : (if t163 = 0 then ((crc_Open.f t161).bind fun bt164 => (if bt164.2 = true then ((record_List.f k bt164.1).bind fun bt166 => (if bt166.2 = 0 then ((frame_fits.f (bt166.1.length : Int)).bind fun t170 => (if t170 = true then (some (bt166.1,wrap64 ((a0.size : Int) - (t162.size : Int)),0)) else (some (([] : List (S50)),0,2)))) else (some (([] : List (S50)),0,2)))) else (some (([] : List (S50)),0,4)))) else (some (([] : List (S50)),0,t163))) = some (r1,r2,r3):=H
 have A2:=Aside0.mk A20
 clear A20
 by_cases c3 : t163 = 0
 ·rw [if_pos c3] at H
  have c3b0 : (t163 == 0) = true:=beq_iff_eq.mpr c3
  have c3b1 : (t163 != 0) = false:=bne_eq_false_iff_eq.mpr c3
  clear c3
  replace H:=Option.bind_eq_some_iff.mp H
  obtain ⟨⟨t164,t165⟩,A40,H⟩:=H
  replace H : (if t165 = true then ((record_List.f k t164).bind fun bt166 => (if bt166.2 = 0 then ((frame_fits.f (bt166.1.length : Int)).bind fun t170 => (if t170 = true then (some (bt166.1,wrap64 ((a0.size : Int) - (t162.size : Int)),0)) else (some (([] : List (S50)),0,2)))) else (some (([] : List (S50)),0,2)))) else (some (([] : List (S50)),0,4))) = some (r1,r2,r3):=H
  have A4:=Aside0.mk A40
  clear A40
  by_cases c5 : t165 = true
  ·subst c5
   have H1 : ((record_List.f k t164).bind fun bt166 => (if bt166.2 = 0 then ((frame_fits.f (bt166.1.length : Int)).bind fun t170 => (if t170 = true then (some (bt166.1,wrap64 ((a0.size : Int) - (t162.size : Int)),0)) else (some (([] : List (S50)),0,2)))) else (some (([] : List (S50)),0,2)))) = some (r1,r2,r3):=by rw [if_pos rfl] at H;exact H
   clear H
   have H:=H1
   clear H1
   replace H:=Option.bind_eq_some_iff.mp H
   obtain ⟨⟨t166,t167⟩,A60,H⟩:=H
   replace H : (if t167 = 0 then ((frame_fits.f (t166.length : Int)).bind fun t170 => (if t170 = true then (some (t166,wrap64 ((a0.size : Int) - (t162.size : Int)),0)) else (some (([] : List (S50)),0,2)))) else (some (([] : List (S50)),0,2))) = some (r1,r2,r3):=H
   have A6:=Aside0.mk A60
   clear A60
   by_cases c7 : t167 = 0
   ·rw [if_pos c7] at H
    have c7b0 : (t167 == 0) = true:=beq_iff_eq.mpr c7
    have c7b1 : (t167 != 0) = false:=bne_eq_false_iff_eq.mpr c7
    clear c7
    replace H:=Option.bind_eq_some_iff.mp H
    obtain ⟨t170,A80,H⟩:=H
    replace H : (if t170 = true then (some (t166,wrap64 ((a0.size : Int) - (t162.size : Int)),0)) else (some (([] : List (S50)),0,2))) = some (r1,r2,r3):=H
    have A8:=Aside0.mk A80
    clear A80
    by_cases c9 : t170 = true
    ·subst c9
     have H1 : (some (t166,wrap64 ((a0.size : Int) - (t162.size : Int)),0)) = some (r1,r2,r3):=by rw [if_pos rfl] at H;exact H
     clear H
     have H:=H1
     clear H1
     simp only [Option.some.injEq,Prod.mk.injEq] at H
     obtain ⟨rfl,rfl,rfl⟩:=H
     go_enter Tryz.func96,Tryz.ntmps96
     go_wp2_with (first | ((with_reducible refine gate_callee (f:=120) rfl ?_);refine goesL_ (some 13) rfl rfl Tryz.func120 (by kernel_rfl) rfl #[.string a0] rfl (by (try simp only [List.map_toArray,List.map_cons,List.map_nil]);first | done | rfl | (simp only [List.length_drop,List.length_take];rfl)) ?_;(with_reducible refine (varint_OfText.calls k a0 t161 t162 t163 _ A2.out).mono ?_);rintro e w10 ⟨rfl,hb⟩;refine ⟨_,rfl,?_⟩;have n0_:=Aside0.mk (below_step (by repeat (first | (with_reducible first | exact HB.out | apply below_alloc | apply pw_below_drewN | apply below_drew1) | exact HB.out)) hb);clear HB;have HB:=n0_;clear n0_;(try clear hb);(try clear hb2);(try clear hk);(try clear hi)) | ((with_reducible refine gate_callee (f:=117) rfl ?_);refine goesL_ (some 22) rfl rfl Tryz.func117 (by kernel_rfl) rfl #[.string t161] rfl (by (try simp only [List.map_toArray,List.map_cons,List.map_nil]);first | done | rfl | (simp only [List.length_drop,List.length_take];rfl)) ?_;(with_reducible refine (crc_Open.calls t161 t164 true _ A4.out).mono ?_);rintro e w11 ⟨rfl,hb⟩;refine ⟨_,rfl,?_⟩;have n0_:=Aside0.mk (below_step (by repeat (first | (with_reducible first | exact HB.out | apply below_alloc | apply pw_below_drewN | apply below_drew1) | exact HB.out)) hb);clear HB;have HB:=n0_;clear n0_;(try clear hb);(try clear hb2);(try clear hk);(try clear hi)) | ((with_reducible refine gate_callee (f:=140) rfl ?_);refine goesL_ (some 29) rfl rfl Tryz.func140 (by kernel_rfl) rfl #[.string t164] rfl (by (try simp only [List.map_toArray,List.map_cons,List.map_nil]);first | done | rfl | (simp only [List.length_drop,List.length_take];rfl)) ?_;(with_reducible refine (record_List.calls k t164 t166 t167 _ A6.out).mono ?_);rintro e w12 ⟨v168,rfl,ho0,hb⟩;refine ⟨_,rfl,?_⟩;have n0_:=Aside0.mk (Kd.R_lower ho0 (below_size (by repeat (first | (with_reducible first | exact HB.out | apply below_alloc | apply pw_below_drewN | apply below_drew1) | exact HB.out))));have n1_:=Aside0.mk (below_step (by repeat (first | (with_reducible first | exact HB.out | apply below_alloc | apply pw_below_drewN | apply below_drew1) | exact HB.out)) hb);clear HB;have HO169:=n0_;have HB:=n1_;clear n0_ n1_;(try clear hb);(try clear hb2);(try clear hk);(try clear hi);(try clear ho0);obtain ⟨Ao13,co13,eo13⟩:=Kd.R_slice HO169.out;subst eo13) | (go_at_call 92;(with_reducible refine (frame_fits.calls (t166.length : Int) true _ A8.out).mono ?_);rintro e w' ⟨rfl,⟨nd,rfl⟩⟩))
     go_ret3
     exact ⟨_,by first | rfl | (simp [errW_none,errW_some] <;> rfl) | (simp [*,errW_none,errW_some] <;> rfl) | (simp [errW_none,errW_some];exact isEmpty_bne _),by (with_reducible repeat (first | apply Kd.R_alloc | apply Kd.R_drewN | apply Kd.R_drew));exact HO169.out,by repeat (first | (with_reducible first | exact HB.out | apply below_alloc | apply pw_below_drewN | apply below_drew1) | exact HB.out)⟩
    ·replace c9:=Bool.eq_false_iff.mpr c9
     subst c9
     have H1 : (some (([] : List (S50)),0,2)) = some (r1,r2,r3):=by rw [if_neg (show ¬ (false = true) by decide)] at H;exact H
     clear H
     have H:=H1
     clear H1
     simp only [Option.some.injEq,Prod.mk.injEq] at H
     obtain ⟨rfl,rfl,rfl⟩:=H
     go_enter Tryz.func96,Tryz.ntmps96
     go_wp2_with (first | ((with_reducible refine gate_callee (f:=120) rfl ?_);refine goesL_ (some 13) rfl rfl Tryz.func120 (by kernel_rfl) rfl #[.string a0] rfl (by (try simp only [List.map_toArray,List.map_cons,List.map_nil]);first | done | rfl | (simp only [List.length_drop,List.length_take];rfl)) ?_;(with_reducible refine (varint_OfText.calls k a0 t161 t162 t163 _ A2.out).mono ?_);rintro e w14 ⟨rfl,hb⟩;refine ⟨_,rfl,?_⟩;have n0_:=Aside0.mk (below_step (by repeat (first | (with_reducible first | exact HB.out | apply below_alloc | apply pw_below_drewN | apply below_drew1) | exact HB.out)) hb);clear HB;have HB:=n0_;clear n0_;(try clear hb);(try clear hb2);(try clear hk);(try clear hi)) | ((with_reducible refine gate_callee (f:=117) rfl ?_);refine goesL_ (some 22) rfl rfl Tryz.func117 (by kernel_rfl) rfl #[.string t161] rfl (by (try simp only [List.map_toArray,List.map_cons,List.map_nil]);first | done | rfl | (simp only [List.length_drop,List.length_take];rfl)) ?_;(with_reducible refine (crc_Open.calls t161 t164 true _ A4.out).mono ?_);rintro e w15 ⟨rfl,hb⟩;refine ⟨_,rfl,?_⟩;have n0_:=Aside0.mk (below_step (by repeat (first | (with_reducible first | exact HB.out | apply below_alloc | apply pw_below_drewN | apply below_drew1) | exact HB.out)) hb);clear HB;have HB:=n0_;clear n0_;(try clear hb);(try clear hb2);(try clear hk);(try clear hi)) | ((with_reducible refine gate_callee (f:=140) rfl ?_);refine goesL_ (some 29) rfl rfl Tryz.func140 (by kernel_rfl) rfl #[.string t164] rfl (by (try simp only [List.map_toArray,List.map_cons,List.map_nil]);first | done | rfl | (simp only [List.length_drop,List.length_take];rfl)) ?_;(with_reducible refine (record_List.calls k t164 t166 t167 _ A6.out).mono ?_);rintro e w16 ⟨v168,rfl,ho0,hb⟩;refine ⟨_,rfl,?_⟩;have n0_:=Aside0.mk (Kd.R_lower ho0 (below_size (by repeat (first | (with_reducible first | exact HB.out | apply below_alloc | apply pw_below_drewN | apply below_drew1) | exact HB.out))));have n1_:=Aside0.mk (below_step (by repeat (first | (with_reducible first | exact HB.out | apply below_alloc | apply pw_below_drewN | apply below_drew1) | exact HB.out)) hb);clear HB;have HO169:=n0_;have HB:=n1_;clear n0_ n1_;(try clear hb);(try clear hb2);(try clear hk);(try clear hi);(try clear ho0);obtain ⟨Ao17,co17,eo17⟩:=Kd.R_slice HO169.out;subst eo17) | (go_at_call 92;(with_reducible refine (frame_fits.calls (t166.length : Int) false _ A8.out).mono ?_);rintro e w' ⟨rfl,⟨nd,rfl⟩⟩))
     go_ret3
     exact ⟨_,by first | rfl | (simp [errW_none,errW_some] <;> rfl) | (simp [*,errW_none,errW_some] <;> rfl) | (simp [errW_none,errW_some];exact isEmpty_bne _),by first | exact Kd.R_nil _ _ _ _ _ | exact Kd.N_nil _ _ _ _ _ | exact Kd.V_nil _ _ _ _ _ | exact Kd.Q_nil _ _ _ _ _ | exact Kd.S_nil _ _ _ _ _,by repeat (first | (with_reducible first | exact HB.out | apply below_alloc | apply pw_below_drewN | apply below_drew1) | exact HB.out)⟩
   ·rw [if_neg c7] at H
    have c7b0 : (t167 == 0) = false:=beq_eq_false_iff_ne.mpr c7
    have c7b1 : (t167 != 0) = true:=bne_iff_ne.mpr c7
    simp only [Option.some.injEq,Prod.mk.injEq] at H
    obtain ⟨rfl,rfl,rfl⟩:=H
    go_enter Tryz.func96,Tryz.ntmps96
    go_wp2_with (first | ((with_reducible refine gate_callee (f:=120) rfl ?_);refine goesL_ (some 13) rfl rfl Tryz.func120 (by kernel_rfl) rfl #[.string a0] rfl (by (try simp only [List.map_toArray,List.map_cons,List.map_nil]);first | done | rfl | (simp only [List.length_drop,List.length_take];rfl)) ?_;(with_reducible refine (varint_OfText.calls k a0 t161 t162 t163 _ A2.out).mono ?_);rintro e w18 ⟨rfl,hb⟩;refine ⟨_,rfl,?_⟩;have n0_:=Aside0.mk (below_step (by repeat (first | (with_reducible first | exact HB.out | apply below_alloc | apply pw_below_drewN | apply below_drew1) | exact HB.out)) hb);clear HB;have HB:=n0_;clear n0_;(try clear hb);(try clear hb2);(try clear hk);(try clear hi)) | ((with_reducible refine gate_callee (f:=117) rfl ?_);refine goesL_ (some 22) rfl rfl Tryz.func117 (by kernel_rfl) rfl #[.string t161] rfl (by (try simp only [List.map_toArray,List.map_cons,List.map_nil]);first | done | rfl | (simp only [List.length_drop,List.length_take];rfl)) ?_;(with_reducible refine (crc_Open.calls t161 t164 true _ A4.out).mono ?_);rintro e w19 ⟨rfl,hb⟩;refine ⟨_,rfl,?_⟩;have n0_:=Aside0.mk (below_step (by repeat (first | (with_reducible first | exact HB.out | apply below_alloc | apply pw_below_drewN | apply below_drew1) | exact HB.out)) hb);clear HB;have HB:=n0_;clear n0_;(try clear hb);(try clear hb2);(try clear hk);(try clear hi)) | ((with_reducible refine gate_callee (f:=140) rfl ?_);refine goesL_ (some 29) rfl rfl Tryz.func140 (by kernel_rfl) rfl #[.string t164] rfl (by (try simp only [List.map_toArray,List.map_cons,List.map_nil]);first | done | rfl | (simp only [List.length_drop,List.length_take];rfl)) ?_;(with_reducible refine (record_List.calls k t164 t166 t167 _ A6.out).mono ?_);rintro e w20 ⟨v168,rfl,ho0,hb⟩;refine ⟨_,rfl,?_⟩;have n0_:=Aside0.mk (Kd.R_lower ho0 (below_size (by repeat (first | (with_reducible first | exact HB.out | apply below_alloc | apply pw_below_drewN | apply below_drew1) | exact HB.out))));have n1_:=Aside0.mk (below_step (by repeat (first | (with_reducible first | exact HB.out | apply below_alloc | apply pw_below_drewN | apply below_drew1) | exact HB.out)) hb);clear HB;have HO169:=n0_;have HB:=n1_;clear n0_ n1_;(try clear hb);(try clear hb2);(try clear hk);(try clear hi);(try clear ho0)))
    go_ret3
    exact ⟨_,by first | rfl | (simp [errW_none,errW_some] <;> rfl) | (simp [*,errW_none,errW_some] <;> rfl) | (simp [errW_none,errW_some];exact isEmpty_bne _),by first | exact Kd.R_nil _ _ _ _ _ | exact Kd.N_nil _ _ _ _ _ | exact Kd.V_nil _ _ _ _ _ | exact Kd.Q_nil _ _ _ _ _ | exact Kd.S_nil _ _ _ _ _,by repeat (first | (with_reducible first | exact HB.out | apply below_alloc | apply pw_below_drewN | apply below_drew1) | exact HB.out)⟩
  ·replace c5:=Bool.eq_false_iff.mpr c5
   subst c5
   have H1 : (some (([] : List (S50)),0,4)) = some (r1,r2,r3):=by rw [if_neg (show ¬ (false = true) by decide)] at H;exact H
   clear H
   have H:=H1
   clear H1
   simp only [Option.some.injEq,Prod.mk.injEq] at H
   obtain ⟨rfl,rfl,rfl⟩:=H
   go_enter Tryz.func96,Tryz.ntmps96
   go_wp2_with (first | ((with_reducible refine gate_callee (f:=120) rfl ?_);refine goesL_ (some 13) rfl rfl Tryz.func120 (by kernel_rfl) rfl #[.string a0] rfl (by (try simp only [List.map_toArray,List.map_cons,List.map_nil]);first | done | rfl | (simp only [List.length_drop,List.length_take];rfl)) ?_;(with_reducible refine (varint_OfText.calls k a0 t161 t162 t163 _ A2.out).mono ?_);rintro e w21 ⟨rfl,hb⟩;refine ⟨_,rfl,?_⟩;have n0_:=Aside0.mk (below_step (by repeat (first | (with_reducible first | exact HB.out | apply below_alloc | apply pw_below_drewN | apply below_drew1) | exact HB.out)) hb);clear HB;have HB:=n0_;clear n0_;(try clear hb);(try clear hb2);(try clear hk);(try clear hi)) | ((with_reducible refine gate_callee (f:=117) rfl ?_);refine goesL_ (some 22) rfl rfl Tryz.func117 (by kernel_rfl) rfl #[.string t161] rfl (by (try simp only [List.map_toArray,List.map_cons,List.map_nil]);first | done | rfl | (simp only [List.length_drop,List.length_take];rfl)) ?_;(with_reducible refine (crc_Open.calls t161 t164 false _ A4.out).mono ?_);rintro e w22 ⟨rfl,hb⟩;refine ⟨_,rfl,?_⟩;have n0_:=Aside0.mk (below_step (by repeat (first | (with_reducible first | exact HB.out | apply below_alloc | apply pw_below_drewN | apply below_drew1) | exact HB.out)) hb);clear HB;have HB:=n0_;clear n0_;(try clear hb);(try clear hb2);(try clear hk);(try clear hi)))
   go_ret3
   exact ⟨_,by first | rfl | (simp [errW_none,errW_some] <;> rfl) | (simp [*,errW_none,errW_some] <;> rfl) | (simp [errW_none,errW_some];exact isEmpty_bne _),by first | exact Kd.R_nil _ _ _ _ _ | exact Kd.N_nil _ _ _ _ _ | exact Kd.V_nil _ _ _ _ _ | exact Kd.Q_nil _ _ _ _ _ | exact Kd.S_nil _ _ _ _ _,by repeat (first | (with_reducible first | exact HB.out | apply below_alloc | apply pw_below_drewN | apply below_drew1) | exact HB.out)⟩
 ·rw [if_neg c3] at H
  have c3b0 : (t163 == 0) = false:=beq_eq_false_iff_ne.mpr c3
  have c3b1 : (t163 != 0) = true:=bne_iff_ne.mpr c3
  simp only [Option.some.injEq,Prod.mk.injEq] at H
  obtain ⟨rfl,rfl,rfl⟩:=H
  go_enter Tryz.func96,Tryz.ntmps96
  go_wp2_with (first | ((with_reducible refine gate_callee (f:=120) rfl ?_);refine goesL_ (some 13) rfl rfl Tryz.func120 (by kernel_rfl) rfl #[.string a0] rfl (by (try simp only [List.map_toArray,List.map_cons,List.map_nil]);first | done | rfl | (simp only [List.length_drop,List.length_take];rfl)) ?_;(with_reducible refine (varint_OfText.calls k a0 t161 t162 t163 _ A2.out).mono ?_);rintro e w23 ⟨rfl,hb⟩;refine ⟨_,rfl,?_⟩;have n0_:=Aside0.mk (below_step (by repeat (first | (with_reducible first | exact HB.out | apply below_alloc | apply pw_below_drewN | apply below_drew1) | exact HB.out)) hb);clear HB;have HB:=n0_;clear n0_;(try clear hb);(try clear hb2);(try clear hk);(try clear hi)))
  go_ret3
  exact ⟨_,by first | rfl | (simp [errW_none,errW_some] <;> rfl) | (simp [*,errW_none,errW_some] <;> rfl) | (simp [errW_none,errW_some];exact isEmpty_bne _),by first | exact Kd.R_nil _ _ _ _ _ | exact Kd.N_nil _ _ _ _ _ | exact Kd.V_nil _ _ _ _ _ | exact Kd.Q_nil _ _ _ _ _ | exact Kd.S_nil _ _ _ _ _,by repeat (first | (with_reducible first | exact HB.out | apply below_alloc | apply pw_below_drewN | apply below_drew1) | exact HB.out)⟩

end Go.Proofs.YthndpknocofioaaGreatDoor.Print
