/- Layer 6: what stays true of a disk whatever is called. -/
import Derived.Test.YtpmnljdhjgjgfaaEv06ZK
import Derived.Test.YtpmnljdhjgjgfaaEv06ZC
namespace Go.Proofs.Ytpmnljdhjgjgfaa.Thw
open Go Go.RowKit Go.Maps Go.Proofs.YtpmnljdhjgjgfaaW.PrintWords Go.Proofs.YtpmnljdhjgjgfaaW.PrintLast Go.Proofs.YtpmnljdhjgjgfaaW.PrintMore
set_option linter.unusedVariables false
set_option linter.unusedSimpArgs false
structure Bnd (room : Int) (k : Nat) (st : Dsk) : Prop where
  hroom : st.room = room
  fuse : -1 ≤ st.fuse ∧ st.fuse ≤ 9223372036854775807
  tot : total st.m ≤ room
  good : GoodM st.m
  keys : ∀ p ∈ st.m, p.1.size ≤ 20
  len : st.m.length ≤ k
theorem Bnd.more {room : Int} {k : Nat} {st : Dsk} (h : Bnd room k st) : Bnd room (k + 1) st := ⟨h.hroom, h.fuse, h.tot, h.good, h.keys, Nat.le_succ_of_le h.len⟩
theorem Bnd.burn {room : Int} {k : Nat} {st : Dsk} (h : Bnd room k st) : Bnd room k st.burn.1 := by
  obtain ⟨r, m, f, d⟩ := st
  obtain ⟨h1, h2, h3, h4, h5, h6⟩ := h
  simp only at h1 h2 h3 h4 h5 h6
  have hm : (Dsk.burn ⟨r, m, f, d⟩).1.m = m := burn_m _
  have hr : (Dsk.burn ⟨r, m, f, d⟩).1.room = r := burn_room _
  refine ⟨hr.trans h1, ?_, by rw [hm]; exact h3, by rw [hm]; exact h4, by rw [hm]; exact h5, by rw [hm]; exact h6⟩
  unfold Dsk.burn
  split
  · exact h2
  · show -1 ≤ mx (wrap64 (f - 1)) (-1) ∧ mx (wrap64 (f - 1)) (-1) ≤ 9223372036854775807
    rw [w64 (by omega)]
    unfold mx
    split <;> omega
theorem Bnd.setm {room : Int} {k j : Nat} {st : Dsk} (h : Bnd room k st) {m : Fls} (h3 : total m ≤ room) (h4 : GoodM m) (h5 : ∀ p ∈ m, p.1.size ≤ 20) (h6 : m.length ≤ j) : Bnd room j { st with m := m } := ⟨h.hroom, h.fuse, h3, h4, h5, h6⟩
theorem Bnd.change {room : Int} {k : Nat} {st : Dsk} (h : Bnd room k st) (name : ByteArray) (may : Bool) (upd : Dsk → DFile → Dsk) (hu : ∀ f, look st.m name = some f → may = true → Bnd room k st.burn.1 → Bnd room (k + 1) (upd st.burn.1 f)) : Bnd room (k + 1) (st.change name may upd).1 := by
  unfold Dsk.change
  split
  · exact h.more
  · rename_i f hf
    split
    · rename_i hm
      split
      · exact hu f hf hm h.burn
      · exact h.burn.more
    · exact h.more
theorem Bnd.sync {room : Int} {k : Nat} {st : Dsk} (h : Bnd room k st) (hn : (st.m.map (·.1)).Nodup) (name : ByteArray) : Bnd room (k + 1) (st.sync name).1 := by
  refine h.change name true _ fun f hf _ hb => ?_
  have hm := look_mem hf
  obtain ⟨g1, g2, g3⟩ := h.good _ hm
  simp only at g1 g2 g3
  have e : fileIn st.m name = f := by simp [fileIn, hf]
  refine hb.setm ?_ ?_ ?_ ?_
  · rw [burn_m, total_put hn, e]; have := h.tot; simp only; omega
  · rw [burn_m]; exact good_put h.good _ ⟨Int.natCast_nonneg _, Int.le_refl _, g3⟩
  · intro p hp; rw [burn_m] at hp; rcases mem_put hp with rfl | hp
    · exact h.keys (name, f) hm
    · exact h.keys p hp
  · rw [burn_m]; exact Nat.le_trans (put_length _ _ _) (Nat.succ_le_succ h.len)
theorem Bnd.remove {room : Int} {k : Nat} {st : Dsk} (h : Bnd room k st) (hn : (st.m.map (·.1)).Nodup) (name : ByteArray) : Bnd room (k + 1) (st.remove name).1 := by
  refine h.change name true _ fun f hf _ hb => ?_
  refine hb.setm ?_ ?_ ?_ ?_
  · rw [burn_m, total_del hn]; have := h.tot; omega
  · rw [burn_m]; exact fun p hp => h.good p (mem_del hp)
  · rw [burn_m]; exact fun p hp => h.keys p (mem_del hp)
  · rw [burn_m]; exact Nat.le_succ_of_le (Nat.le_trans (del_length _ _) h.len)
theorem Bnd.rename {room : Int} {k : Nat} {st : Dsk} (h : Bnd room k st) (hn : (st.m.map (·.1)).Nodup) (name nw : ByteArray) : Bnd room (k + 1) (st.rename name nw).1 := by
  refine h.change name _ _ fun f hf hr hb => ?_
  have hm := look_mem hf
  have e : fileIn st.m name = f := by simp [fileIn, hf]
  refine hb.setm ?_ ?_ ?_ ?_
  · rw [burn_m, total_put (nodup_del hn _), total_del hn, e]; have := h.tot; omega
  · rw [burn_m]; exact good_put (fun p hp => h.good p (mem_del hp)) _ (h.good _ hm)
  · intro p hp; rw [burn_m] at hp; rcases mem_put hp with rfl | hp
    · exact right_size hr
    · exact h.keys p (mem_del hp)
  · rw [burn_m]; exact Nat.le_trans (put_length _ _ _) (Nat.succ_le_succ (Nat.le_trans (del_length _ _) h.len))
theorem Bnd.cut {room : Int} {k : Nat} {st : Dsk} (h : Bnd room k st) (hn : (st.m.map (·.1)).Nodup) (name : ByteArray) (n : Int) : Bnd room (k + 1) (st.cut name n).1 := by
  refine h.change name _ _ fun f hf hr hb => ?_
  have hm := look_mem hf
  have hbd : 0 ≤ n ∧ n ≤ (f.b.size : Int) := by simpa [Dsk.mayCut, Dsk.sizeOf, hf] using hr
  have hs : (f.b.extract 0 n.toNat).size = n.toNat := by rw [ByteArray.size_extract]; omega
  obtain ⟨g1, g2, g3⟩ := h.good _ hm
  simp only at g1 g2 g3
  have e : fileIn st.m name = f := by simp [fileIn, hf]
  refine hb.setm ?_ ?_ ?_ ?_
  · rw [burn_m, total_put hn, e]; simp only [hs]; have := h.tot; omega
  · rw [burn_m]
    refine good_put h.good _ ⟨?_, ?_, ?_⟩
    · show 0 ≤ mn f.sure n
      unfold mn; split <;> omega
    · show mn f.sure n ≤ ((f.b.extract 0 n.toNat).size : Int)
      rw [hs]; unfold mn; split <;> omega
    · show (f.b.extract 0 n.toNat).size ≤ _
      rw [hs]; omega
  · intro p hp; rw [burn_m] at hp; rcases mem_put hp with rfl | hp
    · exact h.keys (name, f) hm
    · exact h.keys p hp
  · rw [burn_m]; exact Nat.le_trans (put_length _ _ _) (Nat.succ_le_succ h.len)
theorem fileOf_in (st : Dsk) (name : ByteArray) : st.fileOf name = fileIn st.m name := by
  unfold Dsk.fileOf fileIn
  cases look st.m name <;> rfl
theorem file_le {m : Fls} (name : ByteArray) : ((fileIn m name).b.size : Int) ≤ total m := by
  cases hlk : look m name with
  | none => have : fileIn m name = ⟨⟨#[]⟩, 0⟩ := by simp [fileIn, hlk]
            rw [this, zero_size]; exact total_nonneg m
  | some f => have : fileIn m name = f := by simp [fileIn, hlk]
              rw [this]; exact size_le_total (look_mem hlk)
theorem Bnd.append {room : Int} {k : Nat} {st : Dsk} (h : Bnd room k st) (hn : (st.m.map (·.1)).Nodup) (hr : room ≤ 1048576) (name b : ByteArray) : Bnd room (k + 1) (st.append name b).1 := by
  unfold Dsk.append
  have ht := total_nonneg st.m
  have htot := h.tot
  split
  · exact h.more
  · rename_i hrt
    split
    · exact h.burn.more
    · split
      · exact h.burn.more
      · rename_i hlt
        have hl : st.burn.1.left = room - total st.m := by
          unfold Dsk.left; rw [burn_room, burn_m, h.hroom]; exact w64 (by omega)
        rw [hl] at hlt
        have hgf := good_fileIn h.good name
        obtain ⟨g1, g2, g3⟩ := hgf
        have hsz : ((fileIn st.m name).b ++ b).size = (fileIn st.m name).b.size + b.size := ByteArray.size_append
        have hle := file_le (m := st.m) name
        have e : st.burn.1.fileOf name = fileIn st.m name := by rw [fileOf_in, burn_m]
        rw [e]
        refine h.burn.setm ?_ ?_ ?_ ?_
        · rw [burn_m, total_put hn]; simp only [hsz]; omega
        · rw [burn_m]
          refine good_put h.good _ ⟨g1, ?_, ?_⟩
          · show (fileIn st.m name).sure ≤ (((fileIn st.m name).b ++ b).size : Int)
            rw [hsz]; omega
          · show ((fileIn st.m name).b ++ b).size ≤ _
            rw [hsz]; omega
        · intro p hp; rw [burn_m] at hp; rcases mem_put hp with rfl | hp
          · exact right_size (by simpa using hrt)
          · exact h.keys p hp
        · rw [burn_m]; exact Nat.le_trans (put_length _ _ _) (Nat.succ_le_succ h.len)
theorem Bnd.setFuse {room : Int} {k : Nat} {st : Dsk} (h : Bnd room k st) {n : Int} (hn : n ≤ 9223372036854775807) : Bnd room (k + 1) { st with fuse := mx n (-1) } :=
  ⟨h.hroom, by show -1 ≤ mx n (-1) ∧ mx n (-1) ≤ _; unfold mx; split <;> omega, h.tot, h.good, h.keys, Nat.le_succ_of_le h.len⟩
theorem crashM_bnd (kept : List Int) {m : Fls} (hn : (m.map (·.1)).Nodup) (hg : GoodM m) : ∀ j, j ≤ (names m).length → total (crashM kept (names m) j m) ≤ total m
  | 0, _ => Int.le_refl _
  | j + 1, hj => by
    have ih := crashM_bnd kept hn hg j (by omega)
    have hk := crashM_keys kept (names m) m (fun s hs => mem_names.1 hs) j (by omega)
    have hg' := good_crashM kept (names m) m hg j
    unfold crashM
    rw [total_put (by rw [hk]; exact hn)]
    have hgf := good_fileIn hg' ((names m).getD j ⟨#[]⟩)
    have hr := crashN_range kept j _ hgf
    obtain ⟨g1, g2, g3⟩ := hgf
    have hs : (crashF kept j (fileIn (crashM kept (names m) j m) ((names m).getD j ⟨#[]⟩))).b.size ≤ (fileIn (crashM kept (names m) j m) ((names m).getD j ⟨#[]⟩)).b.size := by
      unfold crashF; simp only [ByteArray.size_extract]; omega
    omega
theorem Bnd.crash {room : Int} {k : Nat} {st : Dsk} (h : Bnd room k st) (hn : (st.m.map (·.1)).Nodup) (kept : List Int) : Bnd room (k + 1) (st.crash kept) := by
  have hk := crashM_keys kept (names st.m) st.m (fun s hs => mem_names.1 hs) _ (Nat.le_refl _)
  refine ⟨h.hroom, ⟨Int.le_refl _, by show (-1 : Int) ≤ _; decide⟩, Int.le_trans (crashM_bnd kept hn h.good _ (Nat.le_refl _)) h.tot, good_crashM _ _ _ h.good _, ?_, ?_⟩
  · intro p hp
    have : p.1 ∈ st.m.map (·.1) := by rw [← hk]; exact List.mem_map.2 ⟨p, hp, rfl⟩
    obtain ⟨q, hq, e⟩ := List.mem_map.1 this
    rw [← e]; exact h.keys q hq
  · have := congrArg List.length hk
    simp only [List.length_map] at this
    show (crashM kept (names st.m) (names st.m).length st.m).length ≤ k + 1
    rw [this]; exact Nat.le_succ_of_le h.len
end Go.Proofs.Ytpmnljdhjgjgfaa.Thw
