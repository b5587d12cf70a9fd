/- The keys of a map in memory, sorted. No program in sight. -/
import Derived.Test.YtnkadkahdnnbbaaObjM
import Derived.Sort.KeysCollected
import Derived.Test.YtnkadkahdnnbbaaWWords
namespace Go.Proofs.Ytnkadkahdnnbbaa.Thw
open Go Go.RowKit Go.Maps
set_option linter.unusedVariables false
set_option linter.unusedSimpArgs false
/-- Names, rising. -/
def sorted (l : List ByteArray) : List ByteArray := ((l.map fun s => s.data.toList).mergeSort leB).map fun x => ⟨x.toArray⟩
theorem sorted_length (l : List ByteArray) : (sorted l).length = l.length := by simp [sorted]
theorem sorted_perm' (l : List ByteArray) : (sorted l).Perm l := by
  have h := (List.mergeSort_perm (l.map fun s => s.data.toList) leB).map (fun x => (⟨x.toArray⟩ : ByteArray))
  have e : (l.map fun s => s.data.toList).map (fun x => (⟨x.toArray⟩ : ByteArray)) = l := by
    rw [List.map_map]
    conv => rhs; rw [← List.map_id l]
    refine List.map_congr_left fun s _ => ?_
    simp
  rw [e] at h
  exact h
/-- How any element reads, for whoever asks of the keys alone. -/
def anyElem (v : Value) : Option (DataW Unit × List MemPlace) := some (.lit (.bool true), [])
theorem MapOf.owns {α : Type} {P : Program} {kt : TypeId} {ev : α → Value} {w : World} {b : Nat} {m : List (ByteArray × α)} (h : MapOf P kt Value.string ev w b m) (hkt : P.underlying kt = some .string) (hlen : m.length ≤ maxLen) :
    ∃ D0 : DataW Unit, w.ownsMap P kt anyElem b m.length D0 ∧ Maps.size D0 = m.length ∧ (strKeys D0).Perm (m.map fun p => p.1.data.toList) := by
  obtain ⟨es, clock, hb, hst, hm, hk⟩ := h
  have hl : es.size = m.length := by have := congrArg List.length hm; simpa using this
  have hrd : ∀ x ∈ es.toList, ∃ l, keyOf P kt x.key = some l := entries_readable hm hk
  refine ⟨_, ⟨es, clock, hb, ⟨by omega, hst, fun x hx => ?_⟩, by omega, rfl⟩, ?_, ?_⟩
  · obtain ⟨l, hl'⟩ := hrd x hx
    exact ⟨(l, .lit (.bool true)), by simp [WideElems.rd, hl', anyElem]⟩
  · simp [Maps.size, length_sorted, hl]
  · show (List.map (fun p : Lit × DataW Unit => strOf p.1) _).Perm _
    refine ((WideShapes.sorted_perm _).map _).trans ?_
    rw [List.map_map]
    have : es.toList.map ((fun p : Lit × DataW Unit => strOf p.1) ∘ WideElems.rg P kt anyElem) = m.map fun p => p.1.data.toList := by
      have e1 : es.toList.map ((fun p : Lit × DataW Unit => strOf p.1) ∘ WideElems.rg P kt anyElem) = (es.toList.map fun e => (e.key, e.val)).map fun q => match q.1 with | .string s => s.data.toList | _ => [] := by
        rw [List.map_map]
        refine List.map_congr_left fun x hx => ?_
        have hx' : x.key ∈ es.toList.map (·.key) := List.mem_map.2 ⟨x, hx, rfl⟩
        rw [entries_keys hm] at hx'
        obtain ⟨p, hp, e⟩ := List.mem_map.1 hx'
        obtain ⟨l, hl'⟩ := hrd x hx
        have e2 : l = .string p.1.data.toList := by
          rw [← e] at hl'
          simp [keyOf, hkt, mapKey] at hl'
          exact hl'.2.symm
        have hl2 : keyOf P kt (Value.string p.1) = some l := by rw [e]; exact hl'
        simp [WideElems.rg, WideElems.rd, hl2, anyElem, e2, strOf, ← e]
      rw [e1, hm, List.map_map]
      rfl
    rw [this]
/-- The row that holds them. -/
theorem R_sorted {W : World} {base kt : Nat} {v : Value} {ss : List (List UInt8)} {l : List ByteArray} (h : W.ownsRow base kt 1 v ss.length ((ss.mergeSort fun x y => decide (x ≤ y)).map Go.Proofs.encStr)) (hp : ss.Perm (l.map fun s => s.data.toList)) :
    Go.Proofs.YtnkadkahdnnbbaaW.PrintWords.Kd.string.R kt W base (fun _ => True) v (sorted l) := by
  have e : (ss.mergeSort fun x y => decide (x ≤ y)) = (l.map fun s => s.data.toList).mergeSort leB := mergeSort_of_perm hp
  have hlen : ss.length = (sorted l).length := by rw [sorted_length, hp.length_eq, List.length_map]
  rw [e, hlen] at h
  refine Go.Proofs.YtnkadkahdnnbbaaW.PrintWords.Kd.R_of_own (enc := Value.string) ?_ (fun _ _ => trivial)
  have : Go.Proofs.YtnkadkahdnnbbaaW.PrintWords.encs Value.string (sorted l) = ((l.map fun s => s.data.toList).mergeSort leB).map Go.Proofs.encStr := by
    simp [Go.Proofs.YtnkadkahdnnbbaaW.PrintWords.encs, sorted, List.map_map, Go.Proofs.encStr, Function.comp_def]
  rw [this]
  exact h
end Go.Proofs.Ytnkadkahdnnbbaa.Thw
