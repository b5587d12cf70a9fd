/- Layer 10: rising, the slots that have keys by these. -/
import Derived.Test.YtcpjfpbfopkngaaEv10e
namespace Go.Proofs.Ytcpjfpbfopkngaa.Thw
open Go Go.RowKit Go.Proofs.YtcpjfpbfopkngaaW.PrintWords Go.Proofs.YtcpjfpbfopkngaaW.PrintLast Go.Proofs.YtcpjfpbfopkngaaW.PrintMore
set_option linter.unusedVariables false
set_option linter.unusedSimpArgs false
/-- L is T's slots that have keys, by these. -/
def Ris (T L : List Slt) : Prop := L.Perm (T.filter fun x => !gn x) ∧ L.Pairwise fun x y => ¬ y.1.data.toList < x.1.data.toList
theorem Ris.length {T L : List Slt} (h : Ris T L) : L.length ≤ T.length := by rw [h.1.length_eq]; exact List.length_filter_le _ _
def RisPost (w : World) (T : List Slt) (e : Ending) (w' : World) : Prop := ∃ (A : Option Addr) (c : Nat) (L : List Slt), e = .returned (.slice A L.length c) ∧ Kd.R kS 57 w' w.heap.size (fun _ => True) (.slice A L.length c) L ∧ Ris T L ∧ Below w.heap.size w w'
set_option maxHeartbeats 6400000 in
set_option maxRecDepth 100000 in
theorem slots_sort (B : Nat) (A : Option Addr) (c : Nat) (xs : List Slt) (w : World) (hR : Kd.R kS 57 w B (fun _ => True) (.slice A xs.length c) xs) (hn : xs.length ≤ 1000000) (hB : B ≤ w.heap.size) :
    Calls Try.prog 41 #[.slice A xs.length c, .func (.func 42) #[] #[]] w fun e w' => e = .returned (.tuple #[]) ∧ ∃ L : List Slt, L.length = xs.length ∧ Kd.R kS 57 w' B (fun _ => True) (.slice A xs.length c) L ∧ (L.Perm xs ∧ L.Pairwise fun x y => ¬ y.1.data.toList < x.1.data.toList) ∧ Below B w w' := by
  rcases Nat.eq_zero_or_pos xs.length with h00 | h00
  · obtain rfl : xs = [] := List.eq_nil_of_length_eq_zero h00
    have hn := AnyF.slices_SortFunc_none Try.sortSlot A c (.func (.func 42) #[] #[]) w
    change Calls Try.prog 41 _ _ _ at hn
    refine hn.mono ?_
    rintro e w' ⟨rfl, rfl⟩
    exact ⟨rfl, [], rfl, hR, ⟨List.Perm.refl _, List.Pairwise.nil⟩, ⟨rfl, rfl, rfl, Nat.le_refl _, fun _ _ => rfl⟩⟩
  · haveI : Inhabited Slt := ⟨zS⟩
    obtain ⟨g, c', hv, hg, hb, hok, hH, hsorted⟩ := R_holdsK (d := kS) (enc := encS) kS_E (fun w b o x => kS_M w b o x) (fun _ => rfl) hR h00
    injection hv with hv1 hv2 hv3
    subst hv1 hv3
    have eg : ∀ args w, (callFunc 42 args).run Try.prog w = .ok (.enter 42 args) w := enters_of Try.func42 (by kernel_rfl) rfl
    have hcon := AnyQ.slices_SortFunc Try.sortSlot 6 Try.isAgg57 Try.sizeOf57 encS (fun _ => rfl) (fun x v hv => by simp [encS] at hv; rcases hv with rfl | rfl | rfl | rfl | rfl | rfl <;> rfl) (fun x y : Slt => lexB x.1 y.1) (swoKey (fun x : Slt => x.1)) 42 #[] g 0 c xs.toArray w eg (fun _ _ _ _ x y => ahead.calls _ _ _ _ _ _ _ _ _ _ _ _ _) hH hg (by simp; omega)
    change Calls Try.prog 41 _ _ _ at hcon
    rw [List.size_toArray] at hcon
    refine hcon.mono ?_
    rintro e w' ⟨rfl, d', n, os, hp, hs, rfl⟩
    have hdl : d'.size = xs.length := by have := hp.1; simpa using this
    have hperm : d'.toList.Perm xs := by
      have := hp.2.2
      have h2 : d'.toList.Perm (xs.take d'.size) := by simpa [← hdl] using this
      rwa [hdl, List.take_length] at h2
    have hpw : d'.toList.Pairwise fun x y => ¬ y.1.data.toList < x.1.data.toList := by
      rw [List.pairwise_iff_getElem]
      intro i j hi hj hij
      have h1 := hs i j (Nat.zero_le _) hij (by simp at hj; omega)
      rw [getElem!_pos d' i (by simpa using hi), getElem!_pos d' j (by simpa using hj)] at h1
      have h2 := of_decide_eq_false h1
      intro h3
      exact h2 ((cmpB_neg _ _).2 (by simpa using h3))
    exact ⟨rfl, d'.toList, by simpa using hdl, hsorted n d' os (by simpa using hdl), ⟨hperm, hpw⟩, Frm.below (B := B) (sortedWorld_frm encS 6 w g n d' os) hB (fun i _ e => by rw [e]; exact hb)⟩
set_option maxHeartbeats 3200000 in
set_option maxRecDepth 100000 in
theorem dir_rising.calls (w : World) (A : Nat → Prop) (p : Nat) (T : List Slt) (many : Int) (h : DirAt w A p T many) (hn : T.length ≤ 1000000) :
    Calls Try.prog 31 #[.pointer (some ⟨p, 0, none⟩)] w (RisPost w T) := by
  obtain ⟨h1, h2, v, h3, h4⟩ := h
  obtain ⟨A0, c, rfl, hc0, hC⟩ := Kd.R_reads h4
  obtain ⟨c0, c1, fr⟩ := cells2d h3
  have HN := Aside0.mk hn
  have HCL := Aside0.mk (slots_clone A0 T.length c T w hC hc0 hn)
  clear h1 h2 h3 h4 hC hn hc0
  go_enter Try.func31, Try.ntmps31
  go_wp2_with fail
  refine HCL.out.mono ?_
  rintro e w1 ⟨v1, rfl, r1, b1⟩
  obtain ⟨A1, c1', rfl⟩ := Kd.R_slice r1
  have R1 := Aside0.mk r1
  have B1 := Aside0.mk b1
  clear r1 b1 c0 c1 fr
  go_wp2_with fail
  refine (slots_delete A1 c1' T w.heap.size w1 R1.out HN.out B1.out.size).mono ?_
  rintro e w2 ⟨v2, rfl, r2, b2⟩
  obtain ⟨L0, hL0⟩ : ∃ L0, T.filter (fun x => !gn x) = L0 := ⟨_, rfl⟩
  rw [hL0] at r2
  obtain ⟨A2, c2, rfl⟩ := Kd.R_slice r2
  have HL0 := Aside0.mk hL0
  have HLN := Aside0.mk (show L0.length ≤ 1000000 by rw [← hL0]; exact Nat.le_trans (List.length_filter_le _ _) HN.out)
  have R2 := Aside0.mk r2
  have B2 := Aside0.mk (B1.out.trans b2)
  clear r2 b2 hL0 R1 B1
  go_wp2_with fail
  refine (slots_sort w.heap.size A2 c2 L0 w2 R2.out HLN.out B2.out.size).mono ?_
  rintro e w3 ⟨rfl, L, hl, r3, s3, b3⟩
  have R3 := Aside0.mk r3
  have S3 := Aside0.mk s3
  have B3 := Aside0.mk (B2.out.trans b3)
  have HL := Aside0.mk hl
  clear r3 s3 b3 hl
  go_wp2_with fail
  go_ret
  refine ⟨A2, c2, L, by rw [HL.out]; rfl, by rw [HL.out]; exact R3.out, ⟨by rw [HL0.out]; exact S3.out.1, S3.out.2⟩, B3.out⟩
end Go.Proofs.Ytcpjfpbfopkngaa.Thw
