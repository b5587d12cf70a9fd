/- Layer 7: the document's list of objects, and the map's: plain laws. -/
import Derived.Test.YtnkadkahdnnbbaaEv07
import Derived.Test.YtnkadkahdnnbbaaObjS
import Derived.Sort.Walk0
namespace Go.Proofs.Ytnkadkahdnnbbaa.Thw
open Go Go.RowKit Go.Maps Go.Proofs.YtnkadkahdnnbbaaW.PrintWords Go.Proofs.YtnkadkahdnnbbaaW.PrintLast Go.Proofs.YtnkadkahdnnbbaaW.PrintMore
set_option linter.unusedVariables false
set_option linter.unusedSimpArgs false
abbrev RObj := ByteArray × ByteArray
abbrev Fls := List (ByteArray × ByteArray)
def names (m : Fls) : List ByteArray := sorted (m.map (·.1))
def fileIn (m : Fls) (name : ByteArray) : ByteArray := (look m name).getD ⟨#[]⟩
def sl (a b : ByteArray) : Prop := a.data.toList < b.data.toList
theorem bs_inj {a b : ByteArray} (h : a.data.toList = b.data.toList) : a = b := WideShapes.bytes_inj h
theorem sl_irrefl (a : ByteArray) : ¬ sl a a := List.lt_irrefl _
theorem sl_trans {a b c : ByteArray} (h : sl a b) (k : sl b c) : sl a c := List.lt_trans h k
theorem sl_asymm {a b : ByteArray} (h : sl a b) (k : sl b a) : False := sl_irrefl a (sl_trans h k)
theorem sl_tri (a b : ByteArray) (h : ¬ sl a b) (hn : a ≠ b) : sl b a := by
  have h1 : b.data.toList ≤ a.data.toList := List.not_lt.1 h
  rcases List.le_iff_lt_or_eq.1 h1 with h2 | h2
  · exact h2
  · exact absurd (bs_inj h2).symm hn
theorem sorted_pw {l : List ByteArray} (hn : l.Nodup) : (sorted l).Pairwise sl := by
  have tr : ∀ a b c : List UInt8, leB a b = true → leB b c = true → leB a c = true := fun a b c h1 h2 => by simp only [leB, decide_eq_true_eq] at *; exact List.le_trans h1 h2
  have tot : ∀ a b : List UInt8, (leB a b || leB b a) = true := fun a b => by simp only [leB, Bool.or_eq_true, decide_eq_true_eq]; exact List.le_total a b
  have h1 := List.pairwise_mergeSort tr tot (l.map fun s => s.data.toList)
  have h2 : (sorted l).Nodup := (sorted_perm' l).nodup_iff.2 hn
  have h3 : (sorted l).Pairwise fun a b => leB a.data.toList b.data.toList = true := by
    unfold sorted
    refine List.pairwise_map.2 (h1.imp fun {a b} h => by simpa using h)
  refine (h3.and h2).imp fun {a b} h => ?_
  obtain ⟨h4, h5⟩ := h
  simp only [leB, decide_eq_true_eq] at h4
  rcases List.le_iff_lt_or_eq.1 h4 with h6 | h6
  · exact h6
  · exact absurd (bs_inj h6) h5
theorem pw_unique {l l' : List ByteArray} (h : l.Perm l') (h1 : l.Pairwise sl) (h2 : l'.Pairwise sl) : l = l' :=
  List.Perm.eq_of_pairwise (le := sl) (fun a b _ _ x y => (sl_asymm x y).elim) h1 h2 h
theorem names_perm (m : Fls) : (names m).Perm (m.map (·.1)) := sorted_perm' _
theorem names_nodup {m : Fls} (hn : (m.map (·.1)).Nodup) : (names m).Nodup := (names_perm m).nodup_iff.2 hn
theorem names_pw {m : Fls} (hn : (m.map (·.1)).Nodup) : (names m).Pairwise sl := sorted_pw hn
theorem mem_names {m : Fls} {s : ByteArray} : s ∈ names m ↔ s ∈ m.map (·.1) := (names_perm m).mem_iff
def refL (m : Fls) : List RObj := (names m).map fun s => (s, fileIn m s)
theorem refL_length (m : Fls) : (refL m).length = m.length := by simp [refL, names, sorted_length]
theorem refL_names (m : Fls) : (refL m).map (·.1) = names m := by
  unfold refL
  rw [List.map_map]
  exact List.map_id _
theorem mem_keys_iff (m : Fls) (k : ByteArray) : k ∈ m.map (·.1) ↔ (look m k).isSome = true := by
  rw [look_some_of_any, List.any_eq_true]
  constructor
  · intro h
    obtain ⟨p, hp, e⟩ := List.mem_map.1 h
    exact ⟨p, hp, by simpa using e⟩
  · rintro ⟨p, hp, e⟩
    exact List.mem_map.2 ⟨p, hp, by simpa using e⟩
theorem refL_ext {m m' : Fls} (hn : (m.map (·.1)).Nodup) (hn' : (m'.map (·.1)).Nodup) (h : ∀ k, look m k = look m' k) : refL m = refL m' := by
  have hp : (m.map (·.1)).Perm (m'.map (·.1)) := (List.perm_ext_iff_of_nodup hn hn').2 fun k => by rw [mem_keys_iff, mem_keys_iff, h]
  have e : names m = names m' := pw_unique ((names_perm m).trans (hp.trans (names_perm m').symm)) (names_pw hn) (names_pw hn')
  unfold refL
  rw [e]
  refine List.map_congr_left fun s _ => ?_
  simp [fileIn, h]
def wo (L : List RObj) (k : ByteArray) : List RObj := L.filter fun x => decide (x.1 ≠ k)
def slB (a b : ByteArray) : Bool := Op.bytesLess a.toList b.toList
theorem slB_eq (a b : ByteArray) : slB a b = true ↔ sl a b := by
  unfold slB sl
  rw [bytesLess_eq, Lib.toList_data, Lib.toList_data]
  simp
def wi (L : List RObj) (x : RObj) : List RObj := L.takeWhile (fun y => slB y.1 x.1) ++ x :: L.dropWhile (fun y => slB y.1 x.1)
theorem nodup_del {m : Fls} (hn : (m.map (·.1)).Nodup) (k : ByteArray) : ((del m k).map (·.1)).Nodup := ((List.filter_sublist).map _).nodup hn
theorem names_del {m : Fls} (hn : (m.map (·.1)).Nodup) (k : ByteArray) : names (del m k) = (names m).filter fun s => decide (s ≠ k) := by
  refine pw_unique ?_ (names_pw (nodup_del hn k)) ((names_pw hn).filter _)
  refine (names_perm _).trans (List.Perm.trans ?_ ((names_perm m).symm.filter _))
  unfold del
  rw [List.filter_map]
  exact List.Perm.refl _
theorem fileIn_del {m : Fls} {k s : ByteArray} (h : s ≠ k) : fileIn (del m k) s = fileIn m s := by
  unfold fileIn; rw [look_del_other m (Ne.symm h)]
theorem wo_refL {m : Fls} (hn : (m.map (·.1)).Nodup) (k : ByteArray) : wo (refL m) k = refL (del m k) := by
  unfold wo refL
  rw [names_del hn, List.filter_map]
  have e : ((fun x : RObj => decide (x.1 ≠ k)) ∘ fun s => ((s, fileIn m s) : RObj)) = fun s => decide (s ≠ k) := rfl
  rw [e]
  refine List.map_congr_left fun s hs => ?_
  have := (List.mem_filter.1 hs).2
  rw [fileIn_del (by simpa using this)]
theorem ins_pw {l : List ByteArray} {k : ByteArray} (h : l.Pairwise sl) (hk : k ∉ l) : (l.takeWhile (fun s => slB s k) ++ k :: l.dropWhile (fun s => slB s k)).Pairwise sl := by
  induction l with
  | nil => simp
  | cons x l ih =>
    simp only [List.pairwise_cons] at h
    simp only [List.mem_cons, not_or] at hk
    by_cases hx : slB x k = true
    · rw [List.takeWhile_cons, if_pos hx, List.dropWhile_cons, if_pos hx, List.cons_append, List.pairwise_cons]
      refine ⟨fun b hb => ?_, ih h.2 hk.2⟩
      have hx' := (slB_eq _ _).1 hx
      rcases List.mem_append.1 hb with hb | hb
      · exact h.1 b ((List.takeWhile_sublist _).mem hb)
      · rcases List.mem_cons.1 hb with rfl | hb
        · exact hx'
        · exact h.1 b ((List.dropWhile_sublist _).mem hb)
    · rw [List.takeWhile_cons, if_neg hx, List.dropWhile_cons, if_neg hx, List.nil_append, List.pairwise_cons]
      have hkx : sl k x := sl_tri x k (fun y => hx ((slB_eq _ _).2 y)) (Ne.symm hk.1)
      refine ⟨fun b hb => ?_, List.pairwise_cons.2 h⟩
      rcases List.mem_cons.1 hb with rfl | hb
      · exact hkx
      · exact sl_trans hkx (h.1 b hb)
theorem nodup_put {m : Fls} (hn : (m.map (·.1)).Nodup) {k : ByteArray} (hk : k ∉ m.map (·.1)) (f : ByteArray) : ((put m k f).map (·.1)).Nodup := by
  rw [put_none (fun p hp e => hk (by rw [← e]; exact List.mem_map.2 ⟨p, hp, rfl⟩)), List.map_append]
  simp only [List.map_cons, List.map_nil]
  exact List.nodup_append.2 ⟨hn, by simp, fun a ha b hb => by simp at hb; subst hb; exact fun e => hk (e ▸ ha)⟩
theorem names_put {m : Fls} (hn : (m.map (·.1)).Nodup) {k : ByteArray} (hk : k ∉ m.map (·.1)) (f : ByteArray) : names (put m k f) = (names m).takeWhile (fun s => slB s k) ++ k :: (names m).dropWhile (fun s => slB s k) := by
  refine pw_unique ?_ (names_pw (nodup_put hn hk f)) (ins_pw (names_pw hn) (fun h => hk (mem_names.1 h)))
  refine (names_perm _).trans ?_
  rw [put_none (fun p hp e => hk (by rw [← e]; exact List.mem_map.2 ⟨p, hp, rfl⟩)), List.map_append]
  refine List.Perm.trans ?_ List.perm_middle.symm
  rw [List.takeWhile_append_dropWhile]
  exact (List.perm_append_comm).trans ((names_perm m).symm.cons k)
theorem fileIn_put_same (m : Fls) (k : ByteArray) (f : ByteArray) : fileIn (put m k f) k = f := by unfold fileIn; rw [look_put_same]; rfl
theorem fileIn_put_other (m : Fls) {k s : ByteArray} (h : s ≠ k) (f : ByteArray) : fileIn (put m k f) s = fileIn m s := by unfold fileIn; rw [look_put_other m (Ne.symm h)]
theorem wi_refL {m : Fls} (hn : (m.map (·.1)).Nodup) {k : ByteArray} (hk : k ∉ m.map (·.1)) (f : ByteArray) : wi (refL m) (k, f) = refL (put m k f) := by
  have hne : ∀ s ∈ names m, s ≠ k := fun s hs e => hk (mem_names.1 (e ▸ hs))
  unfold wi refL
  rw [names_put hn hk, List.takeWhile_map, List.dropWhile_map, List.map_append, List.map_cons, fileIn_put_same]
  have e : ((fun y : RObj => slB y.1 k) ∘ fun s => ((s, fileIn m s) : RObj)) = fun s => slB s k := rfl
  simp only [e]
  congr 1
  · refine List.map_congr_left fun s hs => ?_
    rw [fileIn_put_other m (hne s ((List.takeWhile_sublist _).mem hs))]
  · congr 1
    refine List.map_congr_left fun s hs => ?_
    rw [fileIn_put_other m (hne s ((List.dropWhile_sublist _).mem hs))]
theorem not_mem_del (m : Fls) (k : ByteArray) : k ∉ (del m k).map (·.1) := by
  rw [mem_keys_iff, look_del_same]; simp
theorem nodup_put' {m : Fls} (hn : (m.map (·.1)).Nodup) (k : ByteArray) (f : ByteArray) : ((put m k f).map (·.1)).Nodup := by
  by_cases h : k ∈ m.map (·.1)
  · obtain ⟨p, hp, e⟩ := List.mem_map.1 h
    have : (put m k f).map (·.1) = m.map (·.1) := by
      unfold put
      rw [if_pos (List.any_eq_true.2 ⟨p, hp, by simpa using e⟩), List.map_map]
      refine List.map_congr_left fun q _ => ?_
      simp only [Function.comp]
      split
      · rename_i hq; exact hq.symm
      · rfl
    rw [this]; exact hn
  · exact nodup_put hn h f
theorem wi_wo {m : Fls} (hn : (m.map (·.1)).Nodup) (k : ByteArray) (f : ByteArray) : wi (wo (refL m) k) (k, f) = refL (put m k f) := by
  rw [wo_refL hn, wi_refL (nodup_del hn k) (not_mem_del m k)]
  refine refL_ext (nodup_put (nodup_del hn k) (not_mem_del m k) f) (nodup_put' hn k f) fun s => ?_
  by_cases h : k = s
  · subst h; rw [look_put_same, look_put_same]
  · rw [look_put_other _ h, look_put_other _ h, look_del_other _ h]
end Go.Proofs.Ytnkadkahdnnbbaa.Thw
