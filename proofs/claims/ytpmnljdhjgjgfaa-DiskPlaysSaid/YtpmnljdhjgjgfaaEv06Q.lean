/- Layer 6: what the disk's calls do to the room. -/
import Derived.Test.YtpmnljdhjgjgfaaEv06S
import Derived.Test.YtpmnljdhjgjgfaaEv06e
namespace Go.Proofs.Ytpmnljdhjgjgfaa.Thw
open Go Go.RowKit Go.Proofs.YtpmnljdhjgjgfaaW.PrintWords Go.Proofs.YtpmnljdhjgjgfaaW.PrintLast Go.Proofs.YtpmnljdhjgjgfaaW.PrintMore
set_option linter.unusedVariables false
set_option linter.unusedSimpArgs false
theorem sum_perm {α : Type} (f : α → Int) {l l' : List α} (h : l.Perm l') : (l.map f).sum = (l'.map f).sum := by
  induction h with
  | nil => rfl
  | cons x _ ih => simp only [List.map_cons, List.sum_cons, ih]
  | swap x y l => simp only [List.map_cons, List.sum_cons]; omega
  | trans _ _ ih1 ih2 => exact ih1.trans ih2
theorem total_nil : total [] = 0 := rfl
theorem total_cons (p : ByteArray × DFile) (m : Fls) : total (p :: m) = p.2.b.size + total m := by simp [total]
theorem total_nonneg (m : Fls) : 0 ≤ total m := by
  induction m with
  | nil => exact Int.le_refl _
  | cons p m ih => rw [total_cons]; omega
theorem size_le_total {m : Fls} {p : ByteArray × DFile} (h : p ∈ m) : (p.2.b.size : Int) ≤ total m := by
  induction m with
  | nil => cases h
  | cons q m ih =>
    rw [total_cons]
    rcases List.mem_cons.1 h with rfl | h
    · have := total_nonneg m; omega
    · have := ih h; omega
theorem fileIn_cons (p : ByteArray × DFile) (m : Fls) (k : ByteArray) : fileIn (p :: m) k = if p.1 = k then p.2 else fileIn m k := by
  unfold fileIn; rw [look_cons]; split <;> rfl
theorem fileIn_absent {m : Fls} {k : ByteArray} (h : k ∉ m.map (·.1)) : fileIn m k = ⟨⟨#[]⟩, 0⟩ := by
  unfold fileIn
  rw [look_none (fun p hp e => h (by rw [← e]; exact List.mem_map.2 ⟨p, hp, rfl⟩))]
  rfl
theorem zero_size : ((⟨⟨#[]⟩, 0⟩ : DFile).b.size : Int) = 0 := rfl
theorem total_del {m : Fls} (hn : (m.map (·.1)).Nodup) (k : ByteArray) : total (del m k) = total m - (fileIn m k).b.size := by
  induction m with
  | nil => rfl
  | cons p m ih =>
    simp only [List.map_cons, List.nodup_cons] at hn
    rw [fileIn_cons, total_cons]
    unfold del at ih ⊢
    rw [List.filter_cons]
    by_cases h : p.1 = k
    · rw [if_neg (by simpa using h), if_pos h]
      have : del m k = m := del_none (fun q hq e => hn.1 (by rw [h, ← e]; exact List.mem_map.2 ⟨q, hq, rfl⟩))
      unfold del at this
      rw [this]; omega
    · rw [if_pos (by simpa using h), if_neg h, total_cons, ih hn.2]; omega
theorem total_put {m : Fls} (hn : (m.map (·.1)).Nodup) (k : ByteArray) (f : DFile) : total (put m k f) = total m - (fileIn m k).b.size + f.b.size := by
  cases hl : look m k with
  | none =>
    have hk : ∀ p ∈ m, p.1 ≠ k := fun p hp e => by
      have h2 := look_some_of_any m k
      rw [hl] at h2
      have : (m.any fun p => decide (p.1 = k)) = true := List.any_eq_true.2 ⟨p, hp, by simpa using e⟩
      rw [this] at h2; cases h2
    rw [put_none hk]
    have e : fileIn m k = ⟨⟨#[]⟩, 0⟩ := by simp [fileIn, hl]
    rw [e, zero_size]
    simp [total]
  | some g =>
    have hj : ∃ j : Nat, m[j]? = some (k, g) := by
      unfold look at hl
      obtain ⟨p, hp, rfl⟩ := Option.map_eq_some_iff.1 hl
      obtain ⟨j, hj, e⟩ := List.mem_iff_getElem.1 (List.mem_of_find?_eq_some hp)
      have hk : p.1 = k := by simpa using List.find?_some hp
      exact ⟨j, by rw [List.getElem?_eq_getElem hj, e, ← hk]⟩
    obtain ⟨j, hj⟩ := hj
    rw [put_at hn hj]
    have e : fileIn m k = g := by simp [fileIn, hl]
    rw [e]
    have hjl := (List.getElem?_eq_some_iff.1 hj).1
    have hsp : m = m.take j ++ (k, g) :: m.drop (j + 1) := by
      conv => lhs; rw [← List.take_append_drop j m]
      rw [List.drop_eq_getElem_cons hjl, (List.getElem?_eq_some_iff.1 hj).2]
    have h2 : m.set j (k, f) = m.take j ++ (k, f) :: m.drop (j + 1) := by rw [List.set_eq_take_append_cons_drop, if_pos hjl]
    rw [h2]
    conv => rhs; rw [hsp]
    rw [total_mid, total_mid]
    simp only
    omega
theorem nodup_del {m : Fls} (hn : (m.map (·.1)).Nodup) (k : ByteArray) : ((del m k).map (·.1)).Nodup := ((List.filter_sublist).map _).nodup hn
theorem mem_put {m : Fls} {k : ByteArray} {f : DFile} {p : ByteArray × DFile} (h : p ∈ put m k f) : p = (k, f) ∨ p ∈ m := by
  unfold put at h
  split at h
  · obtain ⟨q, hq, e⟩ := List.mem_map.1 h
    split at e
    · exact Or.inl e.symm
    · exact Or.inr (e ▸ hq)
  · rcases List.mem_append.1 h with h | h
    · exact Or.inr h
    · exact Or.inl (by simpa using h)
theorem put_length (m : Fls) (k : ByteArray) (f : DFile) : (put m k f).length ≤ m.length + 1 := by unfold put; split <;> simp
theorem mem_del {m : Fls} {k : ByteArray} {p : ByteArray × DFile} (h : p ∈ del m k) : p ∈ m := (List.mem_filter.1 h).1
theorem del_length (m : Fls) (k : ByteArray) : (del m k).length ≤ m.length := List.length_filter_le _ _
/-- What stays true of a disk whose power never goes. -/
structure Inv (room : Int) (k : Nat) (st : Dsk) : Prop where
  hroom : st.room = room
  fuse : st.fuse = -1
  down : st.down = false
  tot : total st.m ≤ room
  good : GoodM st.m
  keys : ∀ p ∈ st.m, p.1.size ≤ 20
  len : st.m.length ≤ k
theorem Inv.burn {room : Int} {k : Nat} {st : Dsk} (h : Inv room k st) : st.burn = (st, 0) := by
  obtain ⟨r, m, f, d⟩ := st
  obtain ⟨h1, h2, h3, _⟩ := h
  simp only at h1 h2 h3
  subst h1; subst h2; subst h3
  have : mx (wrap64 (-2)) (-1) = -1 := by kernel_rfl
  simp [Dsk.burn, this]
theorem Inv.more {room : Int} {k : Nat} {st : Dsk} (h : Inv room k st) : Inv room (k + 1) st := ⟨h.hroom, h.fuse, h.down, h.tot, h.good, h.keys, Nat.le_succ_of_le h.len⟩
theorem look_mem {m : Fls} {k : ByteArray} {f : DFile} (h : look m k = some f) : (k, f) ∈ m := by
  unfold look at h
  obtain ⟨p, hp, rfl⟩ := Option.map_eq_some_iff.1 h
  have hk : p.1 = k := by simpa using List.find?_some hp
  rw [← hk]; exact List.mem_of_find?_eq_some hp
theorem Inv.left {room : Int} {k : Nat} {st : Dsk} (h : Inv room k st) (hr : room ≤ 1048576) : st.left = room - total st.m := by
  have h1 := h.tot
  have h2 := total_nonneg st.m
  unfold Dsk.left
  rw [h.hroom]
  unfold wrap64; omega
theorem right_size {s : ByteArray} (h : right s = true) : s.size ≤ 20 := by
  simp [right] at h; omega
theorem Inv.remove {room : Int} {k : Nat} {st : Dsk} (h : Inv room k st) (hn : (st.m.map (·.1)).Nodup) (name : ByteArray) : Inv room (k + 1) (st.remove name).1 := by
  unfold Dsk.remove Dsk.change
  cases hl : look st.m name with
  | none => exact h.more
  | some f =>
    simp only [if_true, h.burn]
    refine ⟨h.hroom, h.fuse, h.down, ?_, fun p hp => h.good p (mem_del hp), fun p hp => h.keys p (mem_del hp), Nat.le_succ_of_le (Nat.le_trans (del_length _ _) h.len)⟩
    show total (del st.m name) ≤ room
    rw [total_del hn]
    have := h.tot
    omega
theorem Inv.rename {room : Int} {k : Nat} {st : Dsk} (h : Inv room k st) (hn : (st.m.map (·.1)).Nodup) (name nw : ByteArray) : Inv room (k + 1) (st.rename name nw).1 := by
  unfold Dsk.rename Dsk.change
  cases hl : look st.m name with
  | none => exact h.more
  | some f =>
    cases hr : right nw with
    | false => exact h.more
    | true =>
      simp only [if_true, h.burn]
      have hm := look_mem hl
      refine ⟨h.hroom, h.fuse, h.down, ?_, good_put (fun p hp => h.good p (mem_del hp)) _ (h.good _ hm), fun p hp => ?_, ?_⟩
      · show total (put (del st.m name) nw f) ≤ room
        rw [total_put (nodup_del hn _), total_del hn]
        have e : fileIn st.m name = f := by simp [fileIn, hl]
        rw [e]
        have := h.tot
        omega
      · rcases mem_put hp with rfl | hp
        · exact right_size hr
        · exact h.keys p (mem_del hp)
      · exact Nat.le_trans (put_length _ _ _) (Nat.succ_le_succ (Nat.le_trans (del_length _ _) h.len))
theorem Inv.cut {room : Int} {k : Nat} {st : Dsk} (h : Inv room k st) (hn : (st.m.map (·.1)).Nodup) (name : ByteArray) (n : Int) : Inv room (k + 1) (st.cut name n).1 := by
  unfold Dsk.cut Dsk.change
  cases hl : look st.m name with
  | none => exact h.more
  | some f =>
    cases hr : st.mayCut name n with
    | false => exact h.more
    | true =>
      simp only [if_true, h.burn]
      have hm := look_mem hl
      have hb : 0 ≤ n ∧ n ≤ (f.b.size : Int) := by simpa [Dsk.mayCut, Dsk.sizeOf, hl] using hr
      have hs : (f.b.extract 0 n.toNat).size = n.toNat := by rw [ByteArray.size_extract]; omega
      obtain ⟨g1, g2, g3⟩ := h.good _ hm
      simp only at g1 g2 g3
      refine ⟨h.hroom, h.fuse, h.down, ?_, good_put h.good _ ⟨?_, ?_, ?_⟩, fun p hp => ?_, Nat.le_trans (put_length _ _ _) (Nat.succ_le_succ h.len)⟩
      · show total (put st.m name ⟨f.b.extract 0 n.toNat, mn f.sure n⟩) ≤ room
        rw [total_put hn]
        have e : fileIn st.m name = f := by simp [fileIn, hl]
        rw [e]
        simp only [hs]
        have := h.tot
        omega
      · show 0 ≤ mn f.sure n
        unfold mn; split <;> omega
      · show mn f.sure n ≤ ((f.b.extract 0 n.toNat).size : Int)
        rw [hs]; unfold mn; split <;> omega
      · show (f.b.extract 0 n.toNat).size ≤ _
        rw [hs]; omega
      · rcases mem_put hp with rfl | hp
        · exact h.keys (name, f) hm
        · exact h.keys p hp
/-- An Append: it tells 'full' only where there is no room. -/
theorem Inv.append {room : Int} {k : Nat} {st : Dsk} (h : Inv room k st) (hn : (st.m.map (·.1)).Nodup) (hr : room ≤ 1048576) (name b : ByteArray) :
    ∃ st' c, st.append name b = (st', c) ∧ Inv room (k + 1) st' ∧ (c ≠ 6 ∨ c = 6 ∧ st.left < (b.size : Int)) := by
  unfold Dsk.append
  cases hrt : right name with
  | false => exact ⟨_, _, if_pos rfl, h.more, Or.inl (by decide)⟩
  | true =>
    rw [if_neg (by decide), h.burn, if_neg (by simp)]
    simp only
    by_cases hlt : st.left < (b.size : Int)
    · exact ⟨_, _, if_pos hlt, h.more, Or.inr ⟨rfl, hlt⟩⟩
    · refine ⟨_, _, if_neg hlt, ?_, Or.inl (by decide)⟩
      have hl := h.left hr
      have ht := total_nonneg st.m
      have hsz : ((st.fileOf name).b ++ b).size = (st.fileOf name).b.size + b.size := ByteArray.size_append
      have hfo : st.fileOf name = fileIn st.m name := by
        unfold Dsk.fileOf fileIn
        cases look st.m name <;> rfl
      have hgf : GoodF (st.fileOf name) := by rw [hfo]; exact good_fileIn h.good _
      have htot := h.tot
      have hle : ((st.fileOf name).b.size : Int) ≤ total st.m := by
        rw [hfo]
        cases hlk : look st.m name with
        | none => have : fileIn st.m name = ⟨⟨#[]⟩, 0⟩ := by simp [fileIn, hlk]
                  rw [this, zero_size]; exact ht
        | some f => have : fileIn st.m name = f := by simp [fileIn, hlk]
                    rw [this]; exact size_le_total (look_mem hlk)
      obtain ⟨g1, g2, g3⟩ := hgf
      refine ⟨h.hroom, h.fuse, h.down, ?_, good_put h.good _ ⟨g1, ?_, ?_⟩, fun p hp => ?_, Nat.le_trans (put_length _ _ _) (Nat.succ_le_succ h.len)⟩
      · show total (put st.m name _) ≤ room
        rw [total_put hn, ← hfo]
        simp only [hsz]
        omega
      · show (st.fileOf name).sure ≤ (((st.fileOf name).b ++ b).size : Int)
        rw [hsz]; omega
      · show ((st.fileOf name).b ++ b).size ≤ _
        rw [hsz]; omega
      · rcases mem_put hp with rfl | hp
        · exact right_size hrt
        · exact h.keys p hp
theorem look_of_mem {m : Fls} (hn : (m.map (·.1)).Nodup) {p : ByteArray × DFile} (h : p ∈ m) : look m p.1 = some p.2 := by
  obtain ⟨j, hj, e⟩ := List.mem_iff_getElem.1 h
  exact look_at hn (by rw [List.getElem?_eq_getElem hj, e])
/-- The sizes of all files come to all bytes. -/
theorem names_total {m : Fls} (hn : (m.map (·.1)).Nodup) : ((names m).map fun s => ((fileIn m s).b.size : Int)).sum = total m := by
  have hp : (names m).Perm (m.map (·.1)) := sorted_perm' _
  rw [sum_perm _ hp, List.map_map]
  unfold total
  congr 1
  refine List.map_congr_left fun p hp => ?_
  simp [fileIn, look_of_mem hn hp]
theorem names_mem {m : Fls} {s : ByteArray} (h : s ∈ names m) : ∃ p ∈ m, p.1 = s := by
  have hp : (names m).Perm (m.map (·.1)) := sorted_perm' _
  obtain ⟨p, hp, e⟩ := List.mem_map.1 (hp.mem_iff.1 h)
  exact ⟨p, hp, e⟩
theorem DskAt.nodup {w : World} {A : Nat → Prop} {d : Nat} {st : Dsk} (h : DskAt w A d st) : (st.m.map (·.1)).Nodup := by
  obtain ⟨mb, _, _, _, hm⟩ := h
  exact hm.nodup
end Go.Proofs.Ytpmnljdhjgjgfaa.Thw
