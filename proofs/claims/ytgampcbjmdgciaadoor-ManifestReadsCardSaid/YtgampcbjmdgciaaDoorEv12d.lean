/- Layer 12: Bytes; what Read tells of Bytes, and back. -/
import Derived.Test.YtgampcbjmdgciaaDoorEv12c
import Derived.Test.YtgampcbjmdgciaaDoorPlain12c
import Derived.Test.YtgampcbjmdgciaaDoorPrint3
namespace Go.Proofs.YtgampcbjmdgciaaDoor.Thw
open Go Go.RowKit Go.Proofs.YtgampcbjmdgciaaDoor.Print Go.Proofs.YtgampcbjmdgciaaDoorW.PrintWords Go.Proofs.YtgampcbjmdgciaaDoorW.PrintLast Go.Proofs.YtgampcbjmdgciaaDoorW.PrintMore
set_option linter.unusedVariables false
set_option linter.unusedSimpArgs false
abbrev SgI := S46
def unSg (x : SgI) : Sn := (x.f0.toNat, x.f1.toNat, x.f2.toNat)
def U32 (x : SgI) : Prop := 0 ≤ x.f2 ∧ x.f2 ≤ 4294967295
theorem rightS_mem : ∀ (l : List SgI) (last : Int), -1 ≤ last → rightS last l = true → ∀ x ∈ l, 0 ≤ x.f0 ∧ x.f0 ≤ 999999 ∧ 0 ≤ x.f1 ∧ x.f1 ≤ 1048576
  | [], _, _, _, x, hx => by cases hx
  | y :: l, last, hl, h, x, hx => by
    rw [rightS] at h
    simp only [Bool.and_eq_true, Bool.not_eq_true', Bool.or_eq_false_iff, decide_eq_false_iff_not] at h
    obtain ⟨⟨⟨⟨h1, h2⟩, h3⟩, h4⟩, h5⟩ := h
    rcases List.mem_cons.1 hx with rfl | hx
    · exact ⟨by omega, by omega, by omega, by omega⟩
    · exact rightS_mem l y.f0 (by omega) h5 x hx
theorem rightB_of {v : Int} {l : List SgI} (h : rightB v l = true) : 1 ≤ v ∧ v ≤ 999999 ∧ l.length ≤ 200 ∧ ∀ x ∈ l, 0 ≤ x.f0 ∧ x.f0 ≤ 999999 ∧ 0 ≤ x.f1 ∧ x.f1 ≤ 1048576 := by
  unfold rightB at h
  simp only [Bool.and_eq_true, decide_eq_true_eq] at h
  exact ⟨h.1.1.2, h.1.2, h.2, rightS_mem l (-1) (by omega) h.1.1.1⟩
theorem mk_un {x : SgI} (h : 0 ≤ x.f0 ∧ 0 ≤ x.f1 ∧ 0 ≤ x.f2) : mkSg (unSg x) = x := by
  obtain ⟨a, b, c⟩ := x
  unfold mkSg unSg
  simp only at h ⊢
  rw [Int.toNat_of_nonneg h.1, Int.toNat_of_nonneg h.2.1, Int.toNat_of_nonneg h.2.2]
theorem un_mk (p : Sn) : unSg (mkSg p) = p := by
  unfold mkSg unSg
  simp
theorem map_un_mk (l : List Sn) : (l.map mkSg).map unSg = l := by
  rw [List.map_map]
  conv => rhs; rw [← List.map_id l]
  exact List.map_congr_left fun p _ => un_mk p
theorem map_mk_un {l : List SgI} (h : ∀ x ∈ l, 0 ≤ x.f0 ∧ 0 ≤ x.f1 ∧ 0 ≤ x.f2) : (l.map unSg).map mkSg = l := by
  rw [List.map_map]
  conv => rhs; rw [← List.map_id l]
  exact List.map_congr_left fun x hx => mk_un (h x hx)
def bytesR (v : Int) (l : List SgI) : ByteArray × Int := if rightB v l = true then (B (sealS (bodyS v.toNat (l.map unSg))), 0) else (⟨#[]⟩, 1)
theorem readR_put {v : Nat} {l : List Sn} (h : rightB (v : Nat) (l.map mkSg) = true) (hu : ∀ p ∈ l, p.2.2 ≤ 4294967295) : readR (sealS (bodyS v l)) = (some (v, l), 0) := by
  obtain ⟨h1, h2, h3, h4⟩ := rightB_of h
  have hf : ∀ p ∈ l, Fits p := fun p hp => by
    have := h4 (mkSg p) (List.mem_map_of_mem hp)
    have hh := hu p hp
    unfold mkSg at this
    simp only at this
    exact ⟨by omega, by omega, hh⟩
  rw [List.length_map] at h3
  unfold readR
  rw [openS_seal, if_pos rfl]
  have e1 : tk 999999 (bodyS v l) = some (v, putS l.length ++ segsB l) := by
    unfold bodyS
    rw [List.append_assoc]
    exact tk_put (by omega) (by omega) _
  have e2 : tk 200 (putS l.length ++ segsB l) = some (l.length, segsB l) := tk_put (by omega) (by omega) _
  have e3 : segsN l.length (segsB l) = some (l, []) := by
    have := segsN_put l.length l [] rfl hf
    rwa [List.append_nil] at this
  simp only [e1, Option.bind_some, e2, e3, h, and_self, if_true]
theorem readR_of {b : Bs} {v : Nat} {l : List Sn} {e : Int} (h : readR b = (some (v, l), e)) : b = sealS (bodyS v l) ∧ rightB (v : Nat) (l.map mkSg) = true ∧ (∀ p ∈ l, Fits p) ∧ e = 0 := by
  unfold readR at h
  split at h
  · rename_i ho
    have hb : sealS (openS b).1 = b := by
      rcases openS_told b with ⟨s, h1, h2⟩ | h1
      · rw [h1]; exact h2
      · rw [h1] at ho; cases ho
    split at h
    · rename_i r hr
      simp only [Prod.mk.injEq, Option.some.injEq] at h
      obtain ⟨rfl, rfl⟩ := h
      obtain ⟨⟨a, s1⟩, h1, hr⟩ := Option.bind_eq_some_iff.1 hr
      obtain ⟨⟨k, s2⟩, h2, hr⟩ := Option.bind_eq_some_iff.1 hr
      obtain ⟨⟨m, s3⟩, h3, hr⟩ := Option.bind_eq_some_iff.1 hr
      simp only at h2 h3 hr
      split at hr
      · rename_i hc
        simp only [Option.some.injEq, Prod.mk.injEq] at hr
        obtain ⟨rfl, rfl⟩ := hr
        obtain ⟨e1, _, _⟩ := tk_of h1
        obtain ⟨e2, _, _⟩ := tk_of h2
        obtain ⟨e3, l3, f3⟩ := segsN_of k h3
        have h4 : s3 = [] := hc.1
        refine ⟨?_, hc.2, f3, rfl⟩
        rw [← hb, e1, e2, e3, h4, ← l3]
        unfold bodyS
        simp
      · cases hr
    · cases h
  · cases h
theorem readR_err (b : Bs) : (∃ v l, readR b = (some (v, l), 0)) ∨ (readR b = (none, 2) ∧ (openS b).2 = true) ∨ (readR b = (none, 4) ∧ (openS b).2 = false) := by
  cases ho : (openS b).2 with
  | true =>
    cases h : readR b with
    | mk o e =>
      cases o with
      | some r => exact Or.inl ⟨r.1, r.2, by rw [(readR_of h).2.2.2]⟩
      | none =>
        refine Or.inr (Or.inl ⟨?_, rfl⟩)
        unfold readR at h
        rw [if_pos ho] at h
        split at h
        · cases h
        · rw [← h]
  | false =>
    refine Or.inr (Or.inr ⟨?_, rfl⟩)
    unfold readR
    rw [if_neg (by rw [ho]; simp)]
theorem putS_len (n : Nat) : (putS n).length ≤ 10 := by have := putS_length n; omega
theorem segsB_len (l : List Sn) : (segsB l).length ≤ 30 * l.length := by
  induction l with
  | nil => simp [segsB]
  | cons p l ih =>
    have h1 := putS_len p.1
    have h2 := putS_len p.2.1
    have h3 := putS_len p.2.2
    have h4 : (segB p).length ≤ 30 := by
      unfold segB
      rw [List.length_append, List.length_append]
      omega
    unfold segsB at ih ⊢
    rw [List.map_cons, List.flatten_cons, List.length_append, List.length_cons]
    omega
set_option maxHeartbeats 1600000 in
theorem ev_Bytes (v : Int) (l : List SgI) (hl : l.length ≤ 1000) (hu : ∀ x ∈ l, U32 x) : Ev (fun k => manifest_Bytes.f k v l) (bytesR v l) := by
  unfold manifest_Bytes.f bytesR
  refine Ev.bind (ev_Right v l (by omega)) ?_
  cases hr : rightB v l with
  | false =>
    rw [if_neg (by simp)]
    exact ev_some fun _ => if_neg (by simp)
  | true =>
    rw [if_pos rfl]
    obtain ⟨h1, h2, h3, h4⟩ := rightB_of hr
    obtain ⟨vn, rfl⟩ : ∃ n : Nat, v = (n : Int) := ⟨v.toNat, by omega⟩
    have ev : IntKind.u64.wrap (vn : Int) = (vn : Int) := u64_in (by omega) (by omega)
    have el : IntKind.u64.wrap (l.length : Int) = (l.length : Int) := u64_in (by omega) (by omega)
    refine ev_yes ?_
    rw [ev, el]
    refine ev_bind_now (varint_Put_N vn (by omega)) ?_
    refine ev_bind_now (varint_Put_N l.length (by omega)) ?_
    have z1 := putS_len vn
    have z2 := putS_len l.length
    refine ev_if_pos (by rw [B_size, B_size]; omega) ?_
    rw [Int.toNat_natCast]
    have hap : ∀ a b : Bs, B a ++ B b = B (a ++ b) := fun a b => L_inj (by simp [L, B])
    have step : ∀ (d i : Nat), i + d = l.length → Ev (fun k => manifest_Bytes.l0 k (B (putS vn ++ putS l.length ++ segsB ((l.take i).map unSg))) l (l.length : Int) (i : Int)) (B (sealS (bodyS vn (l.map unSg))), 0) := by
      intro d
      induction d with
      | zero =>
        intro i hi
        have ht : l.take i = l := List.take_of_length_le (by omega)
        rw [ht]
        have hz := segsB_len (l.map unSg)
        rw [List.length_map] at hz
        refine Ev.step (f := fun _ => (crc_Seal.f (B (putS vn ++ putS l.length ++ segsB (l.map unSg)))).bind fun t => some (t, 0)) (fun k => ?_) ?_
        · rw [manifest_Bytes.l0, if_neg (by omega)]
        · rw [crc_Seal_S _ (by rw [B_size, List.length_append, List.length_append]; omega), L_B]
          refine ev_some fun _ => ?_
          unfold bodyS
          rw [List.length_map]
          rfl
      | succ d ih =>
        intro i hi
        have hlt : i < l.length := by omega
        have hx : rd_T46 l (i : Int) = l[i] := by
          unfold rd_T46
          rw [Int.toNat_natCast, List.getD_eq_getElem?_getD, List.getElem?_eq_getElem hlt]
          rfl
        have hi1 : wrap64 ((i : Int) + 1) = ((i + 1 : Nat) : Int) := by rw [wrap64_in (by omega) (by omega)]; omega
        have ih' := ih (i + 1) (by omega)
        have hsz := segsB_len ((l.take i).map unSg)
        rw [List.length_map, List.length_take] at hsz
        rw [List.take_succ_eq_append_getElem hlt, List.map_append, List.map_singleton, segsB_snoc] at ih'
        have hm := h4 _ (List.getElem_mem hlt)
        have hmu := hu _ (List.getElem_mem hlt)
        unfold U32 at hmu
        generalize segsB ((l.take i).map unSg) = acc at ih' hsz ⊢
        generalize l[i] = x at hx ih' hm hmu ⊢
        obtain ⟨x0, x1, x2⟩ := x
        simp only at hm hmu
        obtain ⟨n0, rfl⟩ : ∃ n : Nat, x0 = (n : Int) := ⟨x0.toNat, by omega⟩
        obtain ⟨n1, rfl⟩ : ∃ n : Nat, x1 = (n : Int) := ⟨x1.toNat, by omega⟩
        obtain ⟨n2, rfl⟩ : ∃ n : Nat, x2 = (n : Int) := ⟨x2.toNat, by omega⟩
        have y0 := putS_len n0
        have y1 := putS_len n1
        have y2 := putS_len n2
        have w0 : IntKind.u64.wrap (n0 : Int) = (n0 : Int) := u64_in (by omega) (by omega)
        have w1 : IntKind.u64.wrap (n1 : Int) = (n1 : Int) := u64_in (by omega) (by omega)
        have w2 : IntKind.u64.wrap (n2 : Int) = (n2 : Int) := u64_in (by omega) (by omega)
        have hb : segB (unSg ⟨(n0 : Int), (n1 : Int), (n2 : Int)⟩) = putS n0 ++ putS n1 ++ putS n2 := by
          unfold segB unSg
          simp
        rw [hb] at ih'
        refine Ev.step (f := fun k => manifest_Bytes.l0 k (B (putS vn ++ putS l.length ++ (acc ++ (putS n0 ++ putS n1 ++ putS n2)))) l (l.length : Int) ((i + 1 : Nat) : Int)) (fun k => ?_) ih'
        rw [manifest_Bytes.l0, if_pos (by omega), if_pos (by omega), if_pos (by omega), hx, hi1]
        simp only
        rw [w0, w1, w2, varint_Put_N n0 (by omega), Option.bind_some, varint_Put_N n1 (by omega), Option.bind_some, if_pos (by rw [B_size, B_size]; omega), varint_Put_N n2 (by omega), Option.bind_some, if_pos (by rw [B_size, B_size, B_size]; omega),
          if_pos (by rw [B_size, B_size, B_size, B_size, List.length_append, List.length_append]; omega), hap, hap, hap]
        simp only [List.append_assoc]
    have h0 := step l.length 0 (by omega)
    rw [hap]
    have e0 : segsB ((l.take 0).map unSg) = [] := rfl
    rw [e0, List.append_nil] at h0
    exact h0
end Go.Proofs.YtgampcbjmdgciaaDoor.Thw
