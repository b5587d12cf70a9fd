/- Layer 6: the laws' awake and all; DiskSure. -/
import Derived.Test.YtpmnljdhjgjgfaaEv06h
import Derived.Test.YtpmnljdhjgjgfaaEv06f
namespace Go.Proofs.Ytpmnljdhjgjgfaa.Thw
open Go Go.RowKit Go.Proofs.YtpmnljdhjgjgfaaW.PrintWords Go.Proofs.YtpmnljdhjgjgfaaW.PrintLast Go.Proofs.YtpmnljdhjgjgfaaW.PrintMore
attribute [local go_sem] max2_int min2_int max_two min_two
set_option linter.unusedVariables false
set_option linter.unusedSimpArgs false
abbrev up' (B : Nat) : Nat → Prop := fun k => B ≤ k
theorem DskAt.base {w w' : World} {B d : Nat} {st : Dsk} (h : DskAt w' (gr (up' B) w) d st) (hB : B ≤ w.heap.size) : DskAt w' (up' B) d st := h.mono fun k _ hk => hk.elim id (fun h => Nat.le_trans hB h)
theorem Frm.up {B : Nat} {w w' : World} (h : Frm (up' B) w w') (hB : B ≤ w.heap.size) : Below B w w' := h.below hB (fun _ _ x => x)
/-- Just the two blocks that the disk is. -/
theorem DskAt.tight {w : World} {A : Nat → Prop} {d : Nat} {st : Dsk} (h : DskAt w A d st) : ∃ mb, DskAt w (fun k => k = d ∨ k = mb) d st ∧ A d ∧ A mb ∧ d < w.heap.size ∧ mb < w.heap.size ∧ (∀ {s : Nat} {cs : Array Value} {t : TypeId}, w.heap[s]? = some (.cells cs t (0, 0)) → t ≠ 60 → s ≠ d ∧ s ≠ mb) := by
  obtain ⟨mb, a1, a2, hb, hm⟩ := h
  refine ⟨mb, ⟨mb, Or.inl rfl, Or.inr rfl, hb, hm⟩, a1, a2, blk_lt hb, hm.lt, fun {s cs t} hs ht => ⟨?_, ?_⟩⟩
  · rintro rfl; rw [hs] at hb; injection hb with hb; injection hb with _ h2 _; exact ht h2
  · rintro rfl; exact hm.not_cells hs
theorem C_of_block {W : World} {s : Nat} {t : TypeId} (xs : List Int) (h : W.heap[s]? = some (.cells (xs.map (Value.int .i64)).toArray t)) (hm : xs.length ≤ 9223372036854775807) : (Kd.int .i64).C W (some ⟨s, 0, none⟩) xs.length xs := by
  refine ⟨rfl, hm, fun _ => ⟨⟨s, 0, none⟩, rfl, fun j p hj => ⟨[.int .i64 p], rfl, rfl, fun i u hu => ?_⟩⟩⟩
  have hi : i = 0 := by have := (List.getElem?_eq_some_iff.1 hu).1; simp at this; omega
  subst hi
  have hu' : Value.int .i64 p = u := by simpa using hu
  subst hu'
  rw [add_plain]
  have hl := (List.getElem?_eq_some_iff.1 hj).1
  have hv := (List.getElem?_eq_some_iff.1 hj).2
  simp [World.cell?, h, Kd.int, Kd.scalar, hl, hv]
theorem C_none (W : World) : (Kd.int .i64).C W none 0 [] := ⟨rfl, by decide, fun h => absurd h (by decide)⟩
set_option maxHeartbeats 1600000 in
set_option maxRecDepth 100000 in
theorem all06.calls (w : World) (A : Nat → Prop) (d : Nat) (st : Dsk) (h : DskAt w A d st) (hg : GoodM st.m) (name : ByteArray) (hn : name.size ≤ 9223372036854775807) :
    Calls Try.prog 11 #[.pointer (some ⟨d, 0, none⟩), .string name] w fun e w' => e = .returned (.string (fileIn st.m name).b) ∧ Below w.heap.size w w' := by
  have H0 := Aside0.mk h
  have HN := Aside0.mk hn
  have HG := Aside0.mk hg
  have hsz : ∀ f, look st.m name = some f → f.b.size ≤ 9223372036854775807 := fun f hf => by obtain ⟨p, hp, rfl⟩ := mem_look hf; exact (hg p hp).2.2
  have HS := Aside0.mk hsz
  have hrd : (st.read name 0 (st.size name).1).1 = (fileIn st.m name).b := by
    unfold Dsk.read Dsk.size fileIn
    cases hl : look st.m name with
    | none => rfl
    | some f =>
      simp only [Option.getD_some]
      rw [if_neg (by omega)]
      simp only [Int.toNat_zero, Int.zero_add, Int.toNat_natCast]
      exact ByteArray.extract_zero_size
  have HR := Aside0.mk hrd
  clear h hn hg hsz hrd
  go_enter Try.func11, Try.ntmps11
  go_wp2_with fail
  refine (disk_Size.calls w A d st H0.out name HN.out).mono ?_
  rintro e w1 ⟨rfl, b1⟩
  have B1 := Aside0.mk b1
  have H1 := Aside0.mk (H0.out.below b1)
  clear b1
  go_wp2_with fail
  refine (disk_Read.calls w1 A d st H1.out name HN.out 0 _ HS.out).mono ?_
  rintro e w2 ⟨rfl, b2⟩
  have B2 := Aside0.mk (B1.out.trans (b2.mono B1.out.size))
  clear b2
  go_wp2_with fail
  go_ret
  rw [HR.out]
  exact ⟨rfl, B2.out⟩
theorem names_one (k : ByteArray) (f : DFile) : names [(k, f)] = [k] := by simp [names, sorted]
set_option maxHeartbeats 6400000 in
set_option maxRecDepth 100000 in
theorem awake06.calls (w : World) : Calls Try.prog 6 #[] w fun e w' => e = .returned (.bool true) ∧ Below w.heap.size w w' := by
  go_enter Try.func6, Try.ntmps6
  go_wp2_with fail
  refine (disk_New.calls 100 w).mono ?_
  rintro e w1 (⟨hx, _⟩ | ⟨_, d, rfl, h1, b1⟩)
  · exact absurd hx (by omega)
  have H1 := Aside0.mk h1
  have B1 := Aside0.mk b1
  clear h1 b1
  go_wp2_with fail
  refine (disk_Append.calls _ (up' w.heap.size) d _ H1.out _ (by decide) _ (by decide) (by decide)).mono ?_
  rintro e w2 ⟨rfl, h2, f2⟩
  have e2 : (Dsk.new 100).append ⟨#[97]⟩ ⟨#[120, 121]⟩ = (⟨100, [(⟨#[97]⟩, ⟨⟨#[120, 121]⟩, 0⟩)], -1, false⟩, 0) := by kernel_rfl
  rw [e2] at h2
  simp only [e2]
  have H2 := Aside0.mk (DskAt.base h2 B1.out.size)
  have B2 := Aside0.mk (B1.out.trans (f2.up B1.out.size))
  clear h2 f2 H1 B1 e2
  go_wp2_with fail
  refine (disk_Sync.calls _ (up' w.heap.size) d _ H2.out _ (by decide)).mono ?_
  rintro e w3 ⟨rfl, h3, f3⟩
  have e3 : Dsk.sync ⟨100, [(⟨#[97]⟩, ⟨⟨#[120, 121]⟩, 0⟩)], -1, false⟩ ⟨#[97]⟩ = (⟨100, [(⟨#[97]⟩, ⟨⟨#[120, 121]⟩, 2⟩)], -1, false⟩, 0) := by kernel_rfl
  rw [e3] at h3
  simp only [e3]
  have H3 := Aside0.mk (DskAt.base h3 B2.out.size)
  have B3 := Aside0.mk (B2.out.trans (f3.up B2.out.size))
  clear h3 f3 H2 B2 e3
  go_wp2_with fail
  refine (disk_Append.calls _ (up' w.heap.size) d _ H3.out _ (by decide) _ (by decide) (by decide)).mono ?_
  rintro e w4 ⟨rfl, h4, f4⟩
  have e4 : Dsk.append ⟨100, [(⟨#[97]⟩, ⟨⟨#[120, 121]⟩, 2⟩)], -1, false⟩ ⟨#[97]⟩ ⟨#[122]⟩ = (⟨100, [(⟨#[97]⟩, ⟨⟨#[120, 121, 122]⟩, 2⟩)], -1, false⟩, 0) := by kernel_rfl
  rw [e4] at h4
  simp only [e4]
  have H4 := Aside0.mk (DskAt.base h4 B3.out.size)
  have B4 := Aside0.mk (B3.out.trans (f4.up B3.out.size))
  clear h4 f4 H3 B3 e4
  go_wp2_with fail
  obtain ⟨mb, t4, _, a2, l1, l2, _⟩ := H4.out.tight
  have hgood : GoodM [(⟨#[97]⟩, ⟨⟨#[120, 121, 122]⟩, 2⟩)] := by intro p hp; simp only [List.mem_singleton] at hp; subst hp; exact ⟨by decide, by decide, by decide⟩
  refine (disk_Crash.calls w4 _ d _ t4 (fun k hk => by rcases hk with rfl | rfl <;> assumption) (by decide) hgood (by rw [names_one]; intro s hs; simp only [List.mem_singleton] at hs; subst hs; decide) none 0 [] (fun W _ => C_none W) (Nat.le_refl _)).mono ?_
  rintro e w5 ⟨rfl, h5, f5⟩
  have e5 : Dsk.crash ⟨100, [(⟨#[97]⟩, ⟨⟨#[120, 121, 122]⟩, 2⟩)], -1, false⟩ [] = ⟨100, [(⟨#[97]⟩, ⟨⟨#[120, 121]⟩, 2⟩)], -1, false⟩ := by
    unfold Dsk.crash
    rw [names_one]
    kernel_rfl
  rw [e5] at h5
  have H5 := Aside0.mk (h5.mono (A' := up' w.heap.size) (fun k _ hk => by rcases hk with rfl | rfl <;> assumption))
  have B5 := Aside0.mk (B4.out.trans (f5.below B4.out.size (fun k _ hk => by rcases hk with rfl | rfl <;> assumption)))
  clear h5 f5 H4 B4 e5 t4 a2 l1 l2 hgood
  go_wp2_with fail
  refine (disk_Read.calls _ (up' w.heap.size) d _ H5.out _ (by decide) 0 2 (fun f hf => by have : f = ⟨⟨#[120, 121]⟩, 2⟩ := by simpa [look] using hf.symm
                                                                                           rw [this]; decide)).mono ?_
  rintro e w6 ⟨rfl, b6⟩
  have e6 : Dsk.read ⟨100, [(⟨#[97]⟩, ⟨⟨#[120, 121]⟩, 2⟩)], -1, false⟩ ⟨#[97]⟩ 0 2 = (⟨#[120, 121]⟩, 0) := by kernel_rfl
  simp only [e6]
  have H6 := Aside0.mk (H5.out.below b6)
  have B6 := Aside0.mk (B5.out.trans (b6.mono B5.out.size))
  clear b6 e6 H5 B5
  go_wp2_with fail
  refine (disk_Size.calls _ (up' w.heap.size) d _ H6.out _ (by decide)).mono ?_
  rintro e w7 ⟨rfl, b7⟩
  have e7 : Dsk.size ⟨100, [(⟨#[97]⟩, ⟨⟨#[120, 121]⟩, 2⟩)], -1, false⟩ ⟨#[97]⟩ = (2, 0) := by kernel_rfl
  simp only [e7]
  have H7 := Aside0.mk (H6.out.below b7)
  have B7 := Aside0.mk (B6.out.trans (b7.mono B6.out.size))
  clear b7 e7 H6 B6
  go_wp2_with fail
  refine (disk_Left.calls _ (up' w.heap.size) d _ H7.out (by decide)).mono ?_
  rintro e w8 ⟨rfl, b8⟩
  have e8 : Dsk.left ⟨100, [(⟨#[97]⟩, ⟨⟨#[120, 121]⟩, 2⟩)], -1, false⟩ = 98 := by kernel_rfl
  simp only [e8]
  have B8 := Aside0.mk (B7.out.trans (b8.mono B7.out.size))
  clear b8 e8 H7 B7
  go_wp2_with fail
  go_ret
  exact ⟨rfl, B8.out⟩
end Go.Proofs.Ytpmnljdhjgjgfaa.Thw
