/- Layer 15 (merge): a row of structs of one's own that is sorted in place. No printed text in sight. -/
import Derived.Test.YtcpjfpbfopkngaaHead
import Derived.Shelf.GgSortFunc.InsertionK
namespace Go.Proofs.Ytcpjfpbfopkngaa.Thw
open Go Go.RowKit Go.Proofs.YtcpjfpbfopkngaaW.PrintWords Go.Proofs.YtcpjfpbfopkngaaW.PrintLast Go.Proofs.YtcpjfpbfopkngaaW.PrintMore
set_option linter.unusedVariables false
set_option linter.unusedSimpArgs false
section
variable {α : Type} [Inhabited α]
theorem sortedWorld_block (enc : α → List Value) (k : Nat) (w : World) (g m : Nat) (d' : Array α) (os : Array Obj) {cur : Array Value} {e : Nat} (hg : w.heap[g]? = some (.cells cur e (0, 0))) :
    (Go.Proofs.sortWorldK enc k w g 0 m d' os).heap[g]? = some (.cells (Go.Sort.putCells id 0 (Go.Sort.flatK enc k d') cur) e (0, 0)) := by
  have hl := (Array.getElem?_eq_some_iff.1 hg).1
  unfold Go.Proofs.sortWorldK Go.Sort.putRowK Go.Sort.putRow Go.Sort.mapBlock Go.Sort.grow Go.Sort.ahead
  simp only [Array.getElem?_append, Array.size_modify, hl, if_true, Array.getElem?_modify, hg, Option.map_some]
  rfl
theorem sortedWorld_other (enc : α → List Value) (k : Nat) (w : World) (g m : Nat) (d' : Array α) (os : Array Obj) {i : Nat} (hi : i < w.heap.size) (h : i ≠ g) :
    (Go.Proofs.sortWorldK enc k w g 0 m d' os).heap[i]? = w.heap[i]? := by
  unfold Go.Proofs.sortWorldK Go.Sort.putRowK Go.Sort.putRow Go.Sort.mapBlock Go.Sort.grow Go.Sort.ahead
  simp only [Array.getElem?_append, Array.size_modify, hi, if_true, Array.getElem?_modify, if_neg (fun e => h (Eq.symm e) : ¬ g = i)]
theorem sortedWorld_frm (enc : α → List Value) (k : Nat) (w : World) (g m : Nat) (d' : Array α) (os : Array Obj) : Frm (fun i => i = g) w (Go.Proofs.sortWorldK enc k w g 0 m d' os) := by
  refine ⟨rfl, rfl, rfl, ?_, fun i hi hn => sortedWorld_other enc k w g m d' os hi hn⟩
  unfold Go.Proofs.sortWorldK Go.Sort.putRowK Go.Sort.putRow Go.Sort.mapBlock Go.Sort.grow Go.Sort.ahead
  simp
theorem flatK_window (enc : α → List Value) (k : Nat) (hk : ∀ x, (enc x).length = k) (d : Array α) (j : Nat) (p : α) (h : d.toList[j]? = some p) : ((Go.Sort.flatK enc k d).toList.drop (j * k)).take k = enc p := by
  obtain ⟨hj, rfl⟩ := List.getElem?_eq_some_iff.1 h
  have hj' : j < d.size := by simpa using hj
  have hjk : j * k + k ≤ d.size * k := by have := Nat.mul_le_mul_right k (show j + 1 ≤ d.size from hj'); rwa [Nat.add_mul, Nat.one_mul] at this
  apply List.ext_getElem?
  intro i
  rw [List.getElem?_take]
  by_cases hi : i < k
  · rw [if_pos hi, List.getElem?_drop]
    have hlt : j * k + i < d.size * k := by omega
    have hk0 : 0 < k := by omega
    have hdiv : (j * k + i) / k = j := by rw [Nat.mul_comm, Nat.mul_add_div hk0, Nat.div_eq_of_lt hi, Nat.add_zero]
    have hmod : (j * k + i) % k = i := by rw [Nat.mul_comm, Nat.mul_add_mod, Nat.mod_eq_of_lt hi]
    have e1 : (Go.Sort.flatK enc k d).toList[j * k + i]? = some ((Go.Sort.flatK enc k d)[j * k + i]!) := by
      rw [Array.getElem?_toList, getElem!_pos _ _ (by simpa using hlt)]
      exact Array.getElem?_eq_getElem _
    rw [e1, Go.Sort.get_flatK enc k d _ hlt, hdiv, hmod, getElem!_pos d j hj', getElem!_pos _ i (by rw [hk]; exact hi)]
    simp
  · rw [if_neg hi, List.getElem?_eq_none (by rw [hk]; omega)]
theorem R_holdsK {d : Kd α} {enc : α → List Value} (hE : ∀ w base ok x cs, d.M w base ok x cs → cs = enc x) (hM : ∀ w base ok x, d.M w base ok x (enc x)) (hk : ∀ x, (enc x).length = d.sz)
    {e base : Nat} {ok : Nat → Prop} {w : World} {v : Value} {xs : List α} (h : d.R e w base ok v xs) (hx : 0 < xs.length) :
    ∃ g c, v = .slice (some ⟨g, 0, none⟩) xs.length c ∧ g < w.heap.size ∧ base ≤ g ∧ ok g ∧ Go.Sort.HoldsK enc d.sz w g 0 xs.toArray ∧
      ∀ m (d' : Array α) os, d'.size = xs.length → d.R e (Go.Proofs.sortWorldK enc d.sz w g 0 m d' os) base ok v d'.toList := by
  obtain ⟨hok, inner, ⟨hlen, hown⟩, hrl, hrw⟩ := h
  rcases hown with ⟨_, h0⟩ | ⟨g, cap, cur, rfl, hb, hg, hc1, hc2, hcs, htk⟩
  · omega
  have hgl := (Array.getElem?_eq_some_iff.1 hg).1
  refine ⟨g, cap, rfl, hgl, hb, hok g rfl, ?_, ?_⟩
  · intro j hj
    rw [Go.Sort.size_flatK] at hj
    have hj2 : j < xs.length * d.sz := by simpa using hj
    have hk0 : 0 < d.sz := Nat.pos_of_ne_zero fun h0 => by rw [h0] at hj2; omega
    have hq : j / d.sz < xs.length := Nat.div_lt_of_lt_mul (by rw [Nat.mul_comm]; exact hj2)
    have hmod := Nat.mod_lt j hk0
    have hw := hE _ _ _ _ _ (hrw (j / d.sz) xs[j / d.sz] (List.getElem?_eq_getElem hq))
    have hc : cur[j]? = some ((Go.Sort.flatK enc d.sz xs.toArray)[j]!) := by
      rw [Go.Sort.get_flatK enc d.sz _ j hj]
      have e1 : cur[j]? = inner[j]? := by rw [← htk, List.getElem?_take, if_pos hj2, Array.getElem?_toList]
      have e2 : inner[j]? = (enc xs[j / d.sz])[j % d.sz]? := by
        rw [← hw, List.getElem?_take, if_pos hmod, List.getElem?_drop]
        congr 1
        have := Nat.div_add_mod j d.sz
        rw [Nat.mul_comm] at this
        omega
      rw [e1, e2, getElem!_pos xs.toArray _ (by simpa using hq), getElem!_pos _ _ (by simp [hk, hmod])]
      rw [List.getElem?_eq_getElem (by rw [hk]; exact hmod)]
      rfl
    rw [Nat.zero_add]
    exact ⟨by simp only [World.cell?, hg]; exact hc, by simp [World.frozen?, hg]⟩
  · intro m d' os hd
    have hbl := sortedWorld_block enc d.sz w g m d' os hg
    have hfs : (Go.Sort.flatK enc d.sz d').size = xs.length * d.sz := by rw [Go.Sort.size_flatK, hd]
    have hle : xs.length * d.sz ≤ cap * d.sz := Nat.mul_le_mul_right _ hc1
    have htl : d'.toList.length = xs.length := by simpa using hd
    refine ⟨hok, (Go.Sort.flatK enc d.sz d').toList, ⟨by rw [htl]; simpa using hfs, .inr ⟨g, cap, _, by rw [htl], hb, hbl, by rw [htl]; exact hc1, hc2, by simp [Go.Sort.putCells, hcs], ?_⟩⟩, by rw [htl]; simpa using hfs, fun j p hp => ?_⟩
    · rw [htl]
      apply List.ext_getElem?
      intro i
      rw [List.getElem?_take]
      by_cases hi : i < xs.length * d.sz
      · rw [if_pos hi, Array.getElem?_toList, Array.getElem?_toList]
        have hic : i < cur.size := by omega
        unfold Go.Sort.putCells
        rw [Array.getElem?_mapIdx, Array.getElem?_eq_getElem hic, Option.map_some, if_pos ⟨Nat.zero_le _, by omega⟩, Nat.sub_zero, getElem!_pos _ _ (by omega)]
        exact (Array.getElem?_eq_getElem _).symm
      · rw [if_neg hi, List.getElem?_eq_none (by simp only [Array.length_toList]; omega)]
    · rw [flatK_window enc d.sz hk d' j p hp]
      exact hM _ _ _ p
end
end Go.Proofs.Ytcpjfpbfopkngaa.Thw
