/- Layer 6: the methods Sync, Remove, Rename, Cut, Append. -/
import Derived.Test.YtpmnljdhjgjgfaaEv06c
namespace Go.Proofs.Ytpmnljdhjgjgfaa.Thw
open Go Go.RowKit Go.Proofs.YtpmnljdhjgjgfaaW.PrintWords Go.Proofs.YtpmnljdhjgjgfaaW.PrintLast Go.Proofs.YtpmnljdhjgjgfaaW.PrintMore
attribute [local go_sem] max2_int min2_int max_two min_two
set_option linter.unusedVariables false
set_option linter.unusedSimpArgs false
def updSync (name : ByteArray) (st : Dsk) (f : DFile) : Dsk := { st with m := put st.m name ⟨f.b, f.b.size⟩ }
def updRemove (name : ByteArray) (st : Dsk) (f : DFile) : Dsk := { st with m := del st.m name }
def updRename (name nw : ByteArray) (st : Dsk) (f : DFile) : Dsk := { st with m := put (del st.m name) nw f }
def updCut (name : ByteArray) (n : Int) (st : Dsk) (f : DFile) : Dsk := { st with m := put st.m name ⟨f.b.extract 0 n.toNat, mn f.sure n⟩ }
def Dsk.sync (st : Dsk) (name : ByteArray) : Dsk × Int := st.change name true (updSync name)
def Dsk.remove (st : Dsk) (name : ByteArray) : Dsk × Int := st.change name true (updRemove name)
def right (s : ByteArray) : Bool := !s.toList.isEmpty && decide ((s.size : Int) ≤ 20)
def Dsk.rename (st : Dsk) (name nw : ByteArray) : Dsk × Int := st.change name (right nw) (updRename name nw)
theorem change_post {w : World} {A : Nat → Prop} {d : Nat} {W w' : World} {st' : Dsk} (h : DskAt w' (gr (fun k => A k ∧ k < w.heap.size) W) d st') (hz : w.heap.size ≤ W.heap.size) : DskAt w' (gr A w) d st' :=
  h.mono fun k _ hk => hk.elim (fun x => Or.inl x.1) (fun x => Or.inr (Nat.le_trans hz x))

set_option maxHeartbeats 3200000 in
set_option maxRecDepth 100000 in
theorem disk_Sync.calls (w : World) (A : Nat → Prop) (d : Nat) (st : Dsk) (h : DskAt w A d st) (name : ByteArray) (hn : name.size ≤ 9223372036854775807) :
    Calls Try.prog 9 #[.pointer (some ⟨d, 0, none⟩), .string name] w fun e w' => e = .returned (.int .i64 (st.sync name).2) ∧ DskAt w' (gr A w) d (st.sync name).1 ∧ Frm A w w' := by
  have H0 := Aside0.mk h.bound
  have HN := Aside0.mk hn
  clear h hn
  go_enter Try.func9, Try.ntmps9
  go_wp2_with fail
  refine rebase (fun W => DskAt W (fun k => A k ∧ k < w.heap.size) d st ∧ Frm (fun k => A k ∧ k < w.heap.size) w W ∧ W.heap[w.heap.size]? = some (.cells #[.pointer (some ⟨d, 0, none⟩)] 25) ∧ W.heap[w.heap.size + 1]? = some (.cells #[.string name] 9))
    ⟨(H0.out.alloc _).alloc _, ((Frm.refl _ _).alloc _).alloc _, blk_alloc (blk_new _ _) _, by simpa using blk_new (w.alloc (.cells #[.pointer (some ⟨d, 0, none⟩)] 25)) _⟩ ?_
  rintro w1 ⟨h1, f1, p1, p2⟩
  have n1 : ¬ (A (w.heap.size + 1) ∧ w.heap.size + 1 < w.heap.size) := fun x => by omega
  have n0 : ¬ (A w.heap.size ∧ w.heap.size < w.heap.size) := fun x => by omega
  have hz := f1.size
  have HC := Aside0.mk (disk_change.calls w1 (fun k => A k ∧ k < w.heap.size) d st h1 (fun k hk => by omega) name HN.out true 36 _ Try.func36 (by kernel_rfl) (by kernel_rfl) #[.pointer (some ⟨w.heap.size, 0, none⟩), .pointer (some ⟨w.heap.size + 1, 0, none⟩)] (updSync name)
    (fun W f hf _ hW hF => sync_do.calls W _ d st.burn.1 hW f name HN.out w.heap.size (w.heap.size + 1) (hF.keeps p1 n0) (hF.keeps p2 n1)))
  refine HC.out.mono ?_
  rintro e w2 ⟨rfl, h2, f2⟩
  have H2 := Aside0.mk (change_post h2 hz)
  have F2 := Aside0.mk ((f1.andThen f2 (fun i hi => Or.inl hi)).mono (S' := A) fun k _ hk => hk.1)
  clear h1 f1 p1 p2 h2 f2 HC
  go_wp2_with fail
  go_ret
  exact ⟨rfl, H2.out, F2.out⟩

set_option maxHeartbeats 3200000 in
set_option maxRecDepth 100000 in
theorem disk_Remove.calls (w : World) (A : Nat → Prop) (d : Nat) (st : Dsk) (h : DskAt w A d st) (name : ByteArray) (hn : name.size ≤ 9223372036854775807) :
    Calls Try.prog 14 #[.pointer (some ⟨d, 0, none⟩), .string name] w fun e w' => e = .returned (.int .i64 (st.remove name).2) ∧ DskAt w' (gr A w) d (st.remove name).1 ∧ Frm A w w' := by
  have H0 := Aside0.mk h.bound
  have HN := Aside0.mk hn
  clear h hn
  go_enter Try.func14, Try.ntmps14
  go_wp2_with fail
  refine rebase (fun W => DskAt W (fun k => A k ∧ k < w.heap.size) d st ∧ Frm (fun k => A k ∧ k < w.heap.size) w W ∧ W.heap[w.heap.size]? = some (.cells #[.pointer (some ⟨d, 0, none⟩)] 25) ∧ W.heap[w.heap.size + 1]? = some (.cells #[.string name] 9))
    ⟨(H0.out.alloc _).alloc _, ((Frm.refl _ _).alloc _).alloc _, blk_alloc (blk_new _ _) _, by simpa using blk_new (w.alloc (.cells #[.pointer (some ⟨d, 0, none⟩)] 25)) _⟩ ?_
  rintro w1 ⟨h1, f1, p1, p2⟩
  have n1 : ¬ (A (w.heap.size + 1) ∧ w.heap.size + 1 < w.heap.size) := fun x => by omega
  have n0 : ¬ (A w.heap.size ∧ w.heap.size < w.heap.size) := fun x => by omega
  have hz := f1.size
  have HC := Aside0.mk (disk_change.calls w1 (fun k => A k ∧ k < w.heap.size) d st h1 (fun k hk => by omega) name HN.out true 38 _ Try.func38 (by kernel_rfl) (by kernel_rfl) #[.pointer (some ⟨w.heap.size, 0, none⟩), .pointer (some ⟨w.heap.size + 1, 0, none⟩)] (updRemove name)
    (fun W f hf _ hW hF => remove_do.calls W _ d st.burn.1 hW f name HN.out w.heap.size (w.heap.size + 1) (hF.keeps p1 n0) (hF.keeps p2 n1)))
  refine HC.out.mono ?_
  rintro e w2 ⟨rfl, h2, f2⟩
  have H2 := Aside0.mk (change_post h2 hz)
  have F2 := Aside0.mk ((f1.andThen f2 (fun i hi => Or.inl hi)).mono (S' := A) fun k _ hk => hk.1)
  clear h1 f1 p1 p2 h2 f2 HC
  go_wp2_with fail
  go_ret
  exact ⟨rfl, H2.out, F2.out⟩

set_option maxHeartbeats 3200000 in
set_option maxRecDepth 100000 in
theorem disk_Rename.calls (w : World) (A : Nat → Prop) (d : Nat) (st : Dsk) (h : DskAt w A d st) (name : ByteArray) (hn : name.size ≤ 9223372036854775807) (nw : ByteArray) (ht : nw.size ≤ 9223372036854775807) :
    Calls Try.prog 13 #[.pointer (some ⟨d, 0, none⟩), .string name, .string nw] w fun e w' => e = .returned (.int .i64 (st.rename name nw).2) ∧ DskAt w' (gr A w) d (st.rename name nw).1 ∧ Frm A w w' := by
  have H0 := Aside0.mk h.bound
  have HN := Aside0.mk hn
  have HT := Aside0.mk ht
  clear h hn ht
  go_enter Try.func13, Try.ntmps13
  go_wp2_with fail
  refine region_tail 5 (by kernel_rfl) (by kernel_rfl) (fun W => DskAt W (fun k => A k ∧ k < w.heap.size) d st ∧ Frm (fun k => A k ∧ k < w.heap.size) w W ∧ W.heap[w.heap.size]? = some (.cells #[.pointer (some ⟨d, 0, none⟩)] 25) ∧ W.heap[w.heap.size + 1]? = some (.cells #[.string name] 9) ∧ W.heap[w.heap.size + 1 + 1]? = some (.cells #[.string nw] 9))
    ⟨(((H0.out.alloc _).alloc _).alloc _).drew, ((((Frm.refl _ _).alloc _).alloc _).alloc _).drew, blk_drew (blk_alloc (blk_alloc (blk_new _ _) _) _), blk_drew (by simpa using blk_alloc (blk_new (w.alloc (.cells #[.pointer (some ⟨d, 0, none⟩)] 25)) _) _), blk_drew (by simpa using blk_new ((w.alloc (.cells #[.pointer (some ⟨d, 0, none⟩)] 25)).alloc (.cells #[.string name] 9)) _)⟩ ?_
  rintro w1 ⟨h1, f1, p1, p2, p3⟩
  obtain ⟨c0, cr⟩ := cells1 p1
  obtain ⟨d0, dr⟩ := cells1 p2
  obtain ⟨e0, er⟩ := cells1 p3
  have n2 : ¬ (A (w.heap.size + 1 + 1) ∧ w.heap.size + 1 + 1 < w.heap.size) := fun x => by omega
  have n1 : ¬ (A (w.heap.size + 1) ∧ w.heap.size + 1 < w.heap.size) := fun x => by omega
  have n0 : ¬ (A w.heap.size ∧ w.heap.size < w.heap.size) := fun x => by omega
  have HC := Aside0.mk (disk_change.calls w1 (fun k => A k ∧ k < w.heap.size) d st h1 (fun k hk => by have := f1.size; omega) name HN.out (right nw) 37 _ Try.func37 (by kernel_rfl) (by kernel_rfl) #[.pointer (some ⟨w.heap.size, 0, none⟩), .pointer (some ⟨w.heap.size + 1, 0, none⟩), .pointer (some ⟨w.heap.size + 1 + 1, 0, none⟩)] (updRename name nw)
    (fun W f hf _ hW hF => rename_do.calls W _ d st.burn.1 hW f name HN.out nw HT.out w.heap.size (w.heap.size + 1) (w.heap.size + 1 + 1) (hF.keeps p1 n0) (hF.keeps p2 n1) (hF.keeps p3 n2)))
  have F1 := Aside0.mk f1
  clear h1 f1 p1 p2 p3 n0 n1 n2
  simp only [List.take_succ_cons, List.take_zero, List.drop_succ_cons, List.drop_zero]
  repeat still_step
  still_call (disk_right.calls nw w1 (right nw) rfl)
  repeat still_step
  refine wpStill_nil ?_
  go_wp2_with fail
  refine HC.out.mono ?_
  rintro e w2 ⟨rfl, h2, f2⟩
  have H2 := Aside0.mk (change_post h2 F1.out.size)
  have F2 := Aside0.mk ((F1.out.andThen f2 (fun i hi => Or.inl hi)).mono (S' := A) fun k _ hk => hk.1)
  clear h2 f2 HC c0 cr d0 dr e0 er
  go_wp2_with fail
  go_ret
  exact ⟨rfl, H2.out, F2.out⟩

end Go.Proofs.Ytpmnljdhjgjgfaa.Thw
