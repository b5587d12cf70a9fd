/- Layer 15: an insertion at a place; how strings compare; cuts of a row. -/
import Derived.Test.YtlfhnpecfkhcpaaHead
import Derived.Test.YtlfhnpecfkhcpaaPlain15c
import Derived.Test.YtlfhnpecfkhcpaaWTab
import Derived.Sort.Walk0
namespace Go.Proofs.Ytlfhnpecfkhcpaa.Thw
open Go Go.RowKit Go.Maps Go.Proofs.YtlfhnpecfkhcpaaW.PrintWords Go.Proofs.YtlfhnpecfkhcpaaW.PrintLast Go.Proofs.YtlfhnpecfkhcpaaW.PrintMore
set_option linter.unusedVariables false
set_option linter.unusedSimpArgs false
theorem region_draw {P : Program} {ops : Array Oper} {Q : Exit → Act → World → Prop} {S : World → Prop} {ds : List Nat} {id n : Nat} {a : Act} {w : World} (l : Array Bool) (hm : P.follows .mixedOrders = true) (hn : ops.size = n) (hl : Array.replicate n false = l)
    (F : World → Prop) (hF : F w.drew) (hFS : ∀ W, F W → S W) (h : ∀ W, F W → wpAnyLast P .any ops Q S ds n l a W) : (Code.region id ops true).wp P Q a w := start_ l hm hn hl (hFS _ hF) (fun _ => h _ hF)
theorem lessB_iff (a b : ByteArray) : Op.bytesLess a.toList b.toList = true ↔ a.data.toList < b.data.toList := by
  rw [bytesLess_eq, Lib.toList_data, Lib.toList_data]
  simp
section
variable {α : Type} (key : α → ByteArray) (num : α → Int)
theorem insN_new_at : ∀ (L : List α) (r : α) (a : Nat), a ≤ L.length → (∀ j (h : j < L.length), j < a → ltK key L[j] r) → (∀ h : a < L.length, ¬ ltK key L[a] r ∧ key L[a] ≠ key r) → insN key num L r = L.take a ++ [r] ++ L.drop a
  | [], r, 0, _, _, _ => rfl
  | [], r, a + 1, h, _, _ => by simp at h
  | x :: L, r, 0, _, _, h => by
    obtain ⟨h1, h2⟩ := h (by simp)
    have h1' : ¬ (key x).data.toList < (key r).data.toList := h1
    have h2' : ¬ key x = key r := h2
    rw [insN, if_neg h1', if_neg h2']
    rfl
  | x :: L, r, a + 1, ha, hj, h => by
    have h1 : (key x).data.toList < (key r).data.toList := hj 0 (by simp) (by omega)
    rw [insN, if_pos h1, insN_new_at L r a (by simpa using ha) (fun j hl hlt => hj (j + 1) (by simpa using hl) (by omega)) (fun hl => h (by simpa using hl))]
    rfl
theorem insN_old_at : ∀ (L : List α) (r : α) (a : Nat) (ha : a < L.length), (∀ j (h : j < L.length), j < a → ltK key L[j] r) → ¬ ltK key L[a] r → key L[a] = key r → insN key num L r = if num L[a] ≤ num r then L.set a r else L
  | [], r, a, h, _, _, _ => by simp at h
  | x :: L, r, 0, _, _, h1, h2 => by
    have h1' : ¬ (key x).data.toList < (key r).data.toList := h1
    have h2' : key x = key r := h2
    rw [insN, if_neg h1', if_pos h2']
    rfl
  | x :: L, r, a + 1, ha, hj, h1, h2 => by
    have h0 : (key x).data.toList < (key r).data.toList := hj 0 (by simp) (by omega)
    have ha' : a < L.length := by simpa using ha
    rw [insN, if_pos h0, insN_old_at L r a ha' (fun j hl hlt => hj (j + 1) (by simpa using hl) (by omega)) h1 h2]
    show _ = if num L[a] ≤ num r then x :: L.set a r else x :: L
    split <;> rfl
theorem newestL_snoc (l : List α) (r : α) : newestL key num (l ++ [r]) = insN key num (newestL key num l) r := by
  unfold newestL
  rw [List.foldl_append]
  rfl
end
/-- A row cut in two, as the walk spells it. -/
theorem cut_two {P : Program} {α : Type} {d : Kd α} {w : World} {A : Option Addr} {L : List α} {c : Nat} (t e : TypeId) {z : Value} {bytes : Nat} (ht : P.underlying t = some (.slice e)) (hinfo : (P.info? e).map (fun i => (i.zero, i.size, i.bytes)) = some (some z, d.sz, bytes))
    (h : d.C w A L.length L) (hc : L.length ≤ c) (i : Nat) (hi : i ≤ L.length) :
    ∃ A1 c1 A2 c2, (∀ W : World, (Instr.slice t (.slice A L.length c) none (some (.int .i64 (i : Int))) none).run P W = .ok (.slice A1 (L.take i).length c1) W) ∧ d.C w A1 (L.take i).length (L.take i) ∧
      (∀ W : World, (Instr.slice t (.slice A L.length c) (some (.int .i64 (i : Int))) none none).run P W = .ok (.slice A2 (L.drop i).length c2) W) ∧ d.C w A2 (L.drop i).length (L.drop i) := by
  obtain ⟨i0, hi0, hzz⟩ := Option.map_eq_some_iff.1 hinfo
  simp only [Prod.mk.injEq] at hzz
  obtain ⟨hz0, hz1, hz2⟩ := hzz
  have h1 := cut_to (P := P) t e .i64 ht hi0 A L.length c (i : Int) (by omega) (by omega) hc
  have h2 := cut_from (P := P) t e .i64 ht hi0 d.sz hz1 A L.length c (i : Int) (by omega) (by omega)
  have e1 : (L.take i).length = (i : Int).toNat := by rw [List.length_take]; omega
  have e2 : (L.drop i).length = L.length - (i : Int).toNat := by rw [List.length_drop]; omega
  refine ⟨A, c, (if c = i then A else A.map (·.add (i * d.sz))), c - i, ?_, Kd.C_take h hi, ?_, Kd.C_drop h hi hc⟩
  · rw [e1]; exact h1
  · rw [e2]; exact h2
end Go.Proofs.Ytlfhnpecfkhcpaa.Thw
