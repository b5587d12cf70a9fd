/- Layer 10: awake, light. -/
import Derived.Test.YtcpjfpbfopkngaaEv10q
namespace Go.Proofs.Ytcpjfpbfopkngaa.Thw
open Go Go.RowKit Go.Proofs.YtcpjfpbfopkngaaW.PrintWords Go.Proofs.YtcpjfpbfopkngaaW.PrintLast Go.Proofs.YtcpjfpbfopkngaaW.PrintMore
set_option linter.unusedVariables false
set_option linter.unusedSimpArgs false
theorem eqLocB (x y : Loc4) : ∃ r : Bool, (r = true ↔ x = y) ∧ (∀ w, (binOp BinOp.eql 31 (.agg #[.int .i64 x.1, .int .i64 x.2.1, .int .i64 x.2.2.1, .int .u64 x.2.2.2]) (.agg #[.int .i64 y.1, .int .i64 y.2.1, .int .i64 y.2.2.1, .int .u64 y.2.2.2])).run Try.prog w = .ok (.bool r) w) ∧
    ∀ w, (binOp BinOp.neq 31 (.agg #[.int .i64 x.1, .int .i64 x.2.1, .int .i64 x.2.2.1, .int .u64 x.2.2.2]) (.agg #[.int .i64 y.1, .int .i64 y.2.1, .int .i64 y.2.2.1, .int .u64 y.2.2.2])).run Try.prog w = .ok (.bool (!r)) w := by
  refine ⟨(x.1 == y.1 && (x.2.1 == y.2.1 && (x.2.2.1 == y.2.2.1 && (x.2.2.2 == y.2.2.2)))), ?_, fun w => ?_, fun w => ?_⟩
  · obtain ⟨x0, x1, x2, x3⟩ := x
    obtain ⟨y0, y1, y2, y3⟩ := y
    simp
  · simp [binOp, Op.equal, Op.maxDepth, eqLoc 9998 w]
  · simp [binOp, Op.equal, Op.maxDepth, eqLoc 9998 w]
theorem lessD (a b : ByteArray) : Op.bytesLess a.toList b.toList = decide (a.data.toList < b.data.toList) := by
  rw [Bool.eq_iff_iff, bytesLess_eq, Lib.toList_data, Lib.toList_data]
/-- The first key in an empty directory. -/
theorem put_first {k : ByteArray} {l : Loc4} {T : List Slt} {m : Nat} (h : PutTo (List.replicate 8 zS) 0 (k, l, true) T m) : m = 1 ∧ T.length = 8 ∧ (liv T).Perm [(k, l, true)] := by
  have h0 : occ (List.replicate 8 zS) = fun _ => none := by
    funext i
    unfold occ
    rcases Nat.lt_or_ge i 8 with h | h
    · rw [List.getElem?_replicate_of_lt h]; rfl
    · rw [List.getElem?_eq_none (by simpa using h)]
  rcases h with ⟨he, _⟩ | ⟨he, rfl, ⟨_, rfl⟩ | ⟨hlt, _⟩⟩
  · rw [h0] at he; cases he
  · refine ⟨rfl, by rw [lay_length]; rfl, ?_⟩
    exact lay_liv (s := (k, l, true)) (by simp) rfl he
  · simp at hlt
def bK : ByteArray := ⟨#[107]⟩
def bJ : ByteArray := ⟨#[106]⟩
def bA : ByteArray := ⟨#[97]⟩
set_option maxHeartbeats 6400000 in
set_option maxRecDepth 100000 in
theorem awake10.calls (w : World) : Calls Try.prog 6 #[] w fun e w' => e = .returned (.bool true) ∧ Below w.heap.size w w' := by
  go_enter Try.func6, Try.ntmps6
  go_wp2_with fail
  refine (dir_New.calls _).mono ?_
  rintro e w1 ⟨p, rfl, d1, b1⟩
  have B1 := Aside0.mk b1
  have HZ1 := Aside0.mk b1.size
  have D1 := Aside0.mk d1
  clear d1 b1
  obtain ⟨A1, hA1⟩ : ∃ A1, (fun k => w.heap.size ≤ k ∧ k < w1.heap.size) = A1 := ⟨_, rfl⟩
  have HA1 := Aside0.mk (show ∀ k, A1 k → w.heap.size ≤ k by rw [← hA1]; exact fun k h => h.1)
  rw [hA1] at D1
  clear hA1
  go_wp2_with fail
  have HAL := Aside0.mk D1.out.2.1
  refine (inv_Put _ A1 p _ 0 0 (D1.out.below (below_alloc (Below.refl _ _) _)) Inv.start (by omega) ⟨#[107]⟩ (by decide) 1 2 3 4).mono ?_
  rintro e w2 ⟨rfl, T, m, A2, h1, h2, h3, h4, h5, h6⟩
  have HN := Aside0.mk (put_first h1)
  obtain ⟨rfl, _, _⟩ := HN.out
  have D2 := Aside0.mk h2
  have HI := Aside0.mk h5
  have HL := Aside0.mk h6
  have XL := Aside0.mk (h3.keeps (blk_new w1 (.cells #[.int .i64 1, .int .i64 2, .int .i64 3, .int .u64 4] 31)) (fun h => Nat.lt_irrefl _ (HAL.out _ h)))
  have B2 := Aside0.mk (show Below w.heap.size w w2 from (B1.out.alloc B1.out.size (.cells #[.int .i64 1, .int .i64 2, .int .i64 3, .int .u64 4] 31)).trans (h3.below (by have := HZ1.out; simp; omega) (fun i hi h => HA1.out i h)))
  have HZ2 := Aside0.mk (show w1.heap.size < w2.heap.size by have := h3.size; simp at this; omega)
  clear h1 h2 h3 h4 h5 h6
  go_wp2_with fail
  refine (inv_Get _ A2 p T 1 1 D2.out HI.out (by omega) ⟨#[107]⟩ (by decide)).mono ?_
  rintro e w3 ⟨rfl, b3⟩
  have e3 : lk T ⟨#[107]⟩ = some (1, 2, 3, 4) := by rw [HL.out, if_pos rfl]
  rw [show lkV T ⟨#[107]⟩ = (1, 2, 3, 4) by unfold lkV; rw [e3]; rfl, e3]
  simp only [LocV, Option.isSome_some]
  have B3 := Aside0.mk (B2.out.trans (b3.mono B2.out.size))
  have D3 := Aside0.mk (D2.out.below b3)
  have XL3 := Aside0.mk (blk_below XL.out b3)
  clear b3 e3
  go_wp2_with fail
  have e4 : lk T ⟨#[106]⟩ = none := by rw [HL.out, if_neg (by decide)]; exact lk_start _
  refine (inv_Get _ A2 p T 1 1 (D3.out.below (below_alloc (Below.refl _ _) _)) HI.out (by omega) ⟨#[106]⟩ (by decide)).mono ?_
  rintro e w4 ⟨rfl, b4⟩
  rw [show lkV T ⟨#[106]⟩ = (0, 0, 0, 0) by unfold lkV; rw [e4]; rfl, e4]
  simp only [LocV, Option.isSome_none]
  have HZ3 := Aside0.mk (show w1.heap.size < w3.heap.size from lt_of_block XL3.out)
  have XX4 := Aside0.mk (blk_below (blk_new w3 (.cells #[.int .i64 1, .int .i64 2, .int .i64 3, .int .u64 4] 31)) b4)
  have XL4 := Aside0.mk (blk_below (blk_alloc XL3.out (.cells #[.int .i64 1, .int .i64 2, .int .i64 3, .int .u64 4] 31)) b4)
  have B4 := Aside0.mk ((B3.out.alloc B3.out.size (.cells #[.int .i64 1, .int .i64 2, .int .i64 3, .int .u64 4] 31)).trans (b4.mono (by have := B3.out.size; simp; omega)))
  have D4 := Aside0.mk ((D3.out.below (below_alloc (Below.refl _ _) (.cells #[.int .i64 1, .int .i64 2, .int .i64 3, .int .u64 4] 31))).below b4)
  obtain ⟨q3, hq3⟩ : ∃ q, w3.heap.size = q := ⟨_, rfl⟩
  rw [hq3] at HZ3 XX4 ⊢
  clear b4 e4 hq3 B3 D3 XL3
  go_wp2_with fail
  have e5 : (lk T ⟨#[107]⟩).isSome = true := by rw [HL.out, if_pos rfl]; rfl
  refine (inv_Far _ A2 p T 1 1 (D4.out.below (below_alloc (Below.refl _ _) _)) HI.out (by omega) ⟨#[107]⟩ (by decide)).mono ?_
  rintro e w5 ⟨rfl, b5⟩
  rw [show farN T ⟨#[107]⟩ = 0 by have := (farN_lt HI.out ⟨#[107]⟩).1 e5; omega, e5]
  have XX5 := Aside0.mk (blk_below (blk_alloc XX4.out (.cells #[.int .i64 0, .int .i64 0, .int .i64 0, .int .u64 0] 31)) b5)
  have XL5 := Aside0.mk (blk_below (blk_alloc XL4.out (.cells #[.int .i64 0, .int .i64 0, .int .i64 0, .int .u64 0] 31)) b5)
  have B5 := Aside0.mk ((B4.out.alloc B4.out.size (.cells #[.int .i64 0, .int .i64 0, .int .i64 0, .int .u64 0] 31)).trans (b5.mono (by have := B4.out.size; simp; omega)))
  have D5 := Aside0.mk ((D4.out.below (below_alloc (Below.refl _ _) (.cells #[.int .i64 0, .int .i64 0, .int .i64 0, .int .u64 0] 31))).below b5)
  obtain ⟨q4, hq4⟩ : ∃ q, w4.heap.size = q := ⟨_, rfl⟩
  rw [hq4]
  clear b5 e5 hq4 B4 D4 XL4 XX4
  go_wp2_with fail
  refine (keys.calls _ A2 p T 1 D5.out (by rw [HN.out.2.1]; omega) ⟨#[97]⟩).mono ?_
  rintro e w6 ⟨L, A8, c8, A9, c9, hr, rfl, _, _, b6⟩
  have eL : L = [(⟨#[107]⟩, (1, 2, 3, 4), true)] := by
    have h1 : (liv T).Perm [(⟨#[107]⟩, (1, 2, 3, 4), true)] := HN.out.2.2
    exact List.perm_singleton.1 (hr.1.trans h1)
  have eF : (L.filter (onB ⟨#[97]⟩)).length = 1 := by
    have ho : onB ⟨#[97]⟩ (⟨#[107]⟩, (1, 2, 3, 4), true) = true := by
      unfold onB
      rw [lessD]
      decide
    rw [eL, List.filter_cons, if_pos ho]
    rfl
  rw [eF]
  have cx := cells4e (blk_below XX5.out b6)
  have cl := cells4e (blk_below XL5.out b6)
  obtain ⟨x0, x1, x2, x3, _⟩ := cx
  obtain ⟨l0, l1, l2, l3, _⟩ := cl
  have B6 := Aside0.mk (B5.out.trans (b6.mono B5.out.size))
  have D6 := Aside0.mk (D5.out.below b6)
  clear b6 eF eL hr XX5 XL5 B5 D5
  have heq : ∀ w, (binOp BinOp.eql 31 (.agg #[.int .i64 1, .int .i64 2, .int .i64 3, .int .u64 4]) (.agg #[.int .i64 1, .int .i64 2, .int .i64 3, .int .u64 4])).run Try.prog w = .ok (.bool true) w := fun w => by
    simp [binOp, Op.equal, Op.maxDepth, eqLoc 9998 w]
  go_wp2_with fail
  refine (dir_Len.calls _ A2 p T 1 D6.out).mono ?_
  rintro e w' ⟨rfl, rfl⟩
  go_wp2_with fail
  refine (dir_Cap.calls _ A2 p T 1 D6.out).mono ?_
  rintro e w' ⟨rfl, rfl⟩
  rw [HN.out.2.1]
  go_wp2_with fail
  go_ret
  exact ⟨rfl, B6.out⟩
structure OpK where
  do_ : Int
  key : ByteArray
  l : Loc4
def OpsK (W : World) (A : Option Addr) (n : Nat) (ops : Nat → OpK) : Prop :=
  ∀ i, i < n → ∃ ad, A = some ad ∧ W.cell? (ad.add (i * 6)) = some (.int .i64 (ops i).do_) ∧ W.cell? ⟨(ad.add (i * 6)).block, (ad.add (i * 6)).off + 1, none⟩ = some (.string (ops i).key) ∧ W.cell? ⟨(ad.add (i * 6)).block, (ad.add (i * 6)).off + 2, none⟩ = some (.int .i64 (ops i).l.1) ∧ W.cell? ⟨(ad.add (i * 6)).block, (ad.add (i * 6)).off + 3, none⟩ = some (.int .i64 (ops i).l.2.1) ∧ W.cell? ⟨(ad.add (i * 6)).block, (ad.add (i * 6)).off + 4, none⟩ = some (.int .i64 (ops i).l.2.2.1) ∧ W.cell? ⟨(ad.add (i * 6)).block, (ad.add (i * 6)).off + 5, none⟩ = some (.int .u64 (ops i).l.2.2.2)
theorem OpsK.below {B : Nat} {w w' : World} {A : Option Addr} {n : Nat} {ops : Nat → OpK} (h : OpsK w A n ops) (hb : Below B w w') (hB : w.heap.size ≤ B) : OpsK w' A n ops := by
  intro i hi
  obtain ⟨ad, e, h0, h1, h2, h3, h4, h5⟩ := h i hi
  have hb' := hb.mono hB
  exact ⟨ad, e, pw_cell_below hb' h0, pw_cell_below hb' h1, pw_cell_below hb' h2, pw_cell_below hb' h3, pw_cell_below hb' h4, pw_cell_below hb' h5⟩
def LightPost (n : Nat) (ops : Nat → OpK) (w : World) (e : Ending) (w' : World) : Prop := ∃ r, e = .returned (.bool r) ∧ w' = w ∧ (r = true → n ≤ 150 ∧ ∀ i, i < n → (ops i).key.size ≤ 100)
set_option maxHeartbeats 3200000 in
theorem light10.calls (A1 : Option Addr) (n c1 : Nat) (ops : Nat → OpK) (w : World) (hc : OpsK w A1 n ops) (hn : n ≤ c1) :
    Calls Try.prog 7 #[.slice A1 n c1] w (LightPost n ops w) := by
  have HC := Aside0.mk hc
  clear hc
  go_enter Try.func7, Try.ntmps7
  go_wp2_with fail
  go_loopw [3] (fun v3 wr => ∃ k : Nat, k ≤ n ∧ v3 = .int .i64 k ∧ wr = w ∧ Aside0 (∀ i, i < k → (ops i).key.size ≤ 100)) (fun v3 _ => n - (intOf v3).toNat)
  case atStart => exact ⟨0, Nat.zero_le _, rfl, rfl, ⟨fun i hi => absurd hi (Nat.not_lt_zero _)⟩⟩
  case round =>
    obtain ⟨k, hk, rfl, rfl, HK⟩ := hrel
    by_cases hkn : k < n
    case neg =>
      have dkn : decide ((k : Int) < (n : Int)) = false := decide_eq_false (by omega)
      go_wp2_with fail
      go_ret
      refine ⟨_, rfl, rfl, fun h => ?_⟩
      have h1 := of_decide_eq_true h
      exact ⟨by omega, fun i hi => HK.out i (by omega)⟩
    have dkn : decide ((k : Int) < (n : Int)) = true := decide_eq_true (by omega)
    by_cases hk2 : k < 200
    case neg =>
      have dk2 : decide ((k : Int) < 200) = false := decide_eq_false (by omega)
      go_wp2_with fail
      go_ret
      refine ⟨_, rfl, rfl, fun h => ?_⟩
      have h1 := of_decide_eq_true h
      omega
    have dk2 : decide ((k : Int) < 200) = true := decide_eq_true (by omega)
    obtain ⟨ad, rfl, q0, q1, _⟩ := HC.out k hkn
    have HKK := Aside0.mk (fun h : (ops k).key.size ≤ 100 => fun i (hi : i < k + 1) => (by
      rcases Nat.lt_or_ge i k with h1 | h1
      · exact HK.out i h1
      · rw [show i = k by omega]; exact h : (ops i).key.size ≤ 100))
    generalize ops k = o at q0 q1 HKK
    obtain ⟨x0, x1, x2⟩ := o
    simp only at q0 q1 HKK
    have p0 : 0 ≤ (k : Int) := by omega
    have HX := Aside0.mk (Nat.lt_or_ge 100 x1.size)
    rcases HX.out with hx | hx
    · have dx : decide ((100 : Int) < (x1.size : Int)) = true := decide_eq_true (by omega)
      go_wp2_with fail
      go_ret
      exact ⟨_, rfl, rfl, fun h => by cases h⟩
    · have dx : decide ((100 : Int) < (x1.size : Int)) = false := decide_eq_false (by omega)
      go_wp2_with fail
      go_roundw
      case measure => show n - ((k : Int) + 1).toNat < n - (k : Int).toNat; omega
      exact ⟨k + 1, by omega, rfl, trivial, ⟨HKK.out hx⟩⟩
end Go.Proofs.Ytcpjfpbfopkngaa.Thw
