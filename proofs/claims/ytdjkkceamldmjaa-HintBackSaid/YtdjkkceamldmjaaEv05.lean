/- Layer 5 (hint): what the printed functions come to, in the plain words of Plain05: entries' bytes and the entries of bytes. -/
import Derived.Test.YtdjkkceamldmjaaPrint4
import Derived.Test.YtdjkkceamldmjaaPrint5
import Derived.Test.YtdjkkceamldmjaaPrint6
import Derived.Test.YtdjkkceamldmjaaPrint10
import Derived.Test.YtdjkkceamldmjaaPrint11
import Derived.Test.YtdjkkceamldmjaaPrint12
import Derived.Test.YtdjkkceamldmjaaPrint13
import Derived.Test.YtdjkkceamldmjaaPrint9
import Derived.Test.YtdjkkceamldmjaaEv02r
import Derived.Test.YtdjkkceamldmjaaEv03
import Derived.Test.YtdjkkceamldmjaaEv01s
import Derived.Test.YtdjkkceamldmjaaPlain05
namespace Go.Proofs.Ytdjkkceamldmjaa.Thw
open Go Go.RowKit Go.Proofs.Ytdjkkceamldmjaa.Print Go.Proofs.YtdjkkceamldmjaaW.PrintWords Go.Proofs.YtdjkkceamldmjaaW.PrintLast Go.Proofs.YtdjkkceamldmjaaW.PrintMore
set_option linter.unusedVariables false
set_option linter.unusedSimpArgs false

theorem openS_len' (l : Bs) : (openS l).1.length ≤ l.length := by
  rcases openS_told l with ⟨s, h1, h2⟩ | h
  · rw [h1, ← h2, sealS_length]; simp
  · rw [h]; simp
abbrev SE := S39
abbrev SF := S49
def ES (e : Ent) : SE := ⟨B e.key, e.off, e.len, (e.seq : Int), e.gone⟩
def EF (e : Ent) : SF := ⟨B e.key, e.off, e.len, (e.seq : Int), e.gone⟩
theorem unES (x : SE) (h : 0 ≤ x.f3) : ∃ e : Ent, x = ES e := by
  obtain ⟨a, b, c, d, g⟩ := x
  obtain ⟨n, rfl⟩ := Int.eq_ofNat_of_zero_le h
  exact ⟨⟨L a, b, c, n, g⟩, by simp [ES, B_L]⟩
theorem unESs : ∀ (l : List SE), (∀ x ∈ l, 0 ≤ x.f3) → ∃ es : List Ent, l = es.map ES
  | [], _ => ⟨[], rfl⟩
  | x :: l, h => by
    obtain ⟨r, hr⟩ := unES x (h x (by simp))
    obtain ⟨rs, hs⟩ := unESs l (fun y hy => h y (by simp [hy]))
    exact ⟨r :: rs, by rw [hr, hs]; rfl⟩
theorem rd_ES (es : List Ent) (i : Nat) (h : i < es.length) : rd_T39 (es.map ES) (i : Int) = ES es[i] := by
  unfold rd_T39
  simp [List.getD_eq_getElem?_getD, h]
theorem rd_EF (es : List Ent) (i : Nat) (h : i < es.length) : rd_T49 (es.map EF) (i : Int) = EF es[i] := by
  unfold rd_T49
  simp [List.getD_eq_getElem?_getD, h]
theorem right_E (e : Ent) : hint_right.f (B e.key) e.off e.len (e.seq : Int) e.gone = some (rightE e) := by
  unfold hint_right.f rightE
  rw [B_size]
  congr 1
  rw [Bool.eq_iff_iff]
  simp only [Bool.and_eq_true, decide_eq_true_eq]
  omega
theorem rright_E (e : Ent) : thwartref05_Right.f (B e.key) e.off e.len (e.seq : Int) e.gone = some (rightE e) := by
  unfold thwartref05_Right.f rightE
  rw [B_size]
  by_cases h1 : 1 ≤ e.key.length
  case neg => rw [if_neg (by omega)]; congr 1; rw [decide_eq_false (by omega)]
  rw [if_pos (by omega)]
  by_cases h2 : e.key.length ≤ 40
  case neg => rw [if_neg (by omega)]; congr 1; rw [decide_eq_false (by omega)]
  rw [if_pos (by omega)]
  by_cases h3 : 0 ≤ e.off
  case neg => rw [if_neg (by omega)]; congr 1; rw [decide_eq_false (by omega)]
  rw [if_pos (by omega)]
  by_cases h4 : e.off ≤ 1048576
  case neg => rw [if_neg (by omega)]; congr 1; rw [decide_eq_false (by omega)]
  rw [if_pos (by omega)]
  by_cases h5 : 1 ≤ e.len
  case neg => rw [if_neg (by omega)]; congr 1; rw [decide_eq_false (by omega)]
  rw [if_pos (by omega)]
  by_cases h6 : e.len ≤ 400
  case neg => rw [if_neg (by omega)]; congr 1; rw [decide_eq_false (by omega)]
  rw [if_pos (by omega)]
  by_cases h7 : 1 ≤ e.seq
  case neg => rw [if_neg (by omega)]; congr 1; rw [decide_eq_false (by omega)]
  rw [if_pos (by omega)]
  congr 1
  rw [Bool.eq_iff_iff]
  simp only [decide_eq_true_eq]
  omega
theorem or_zero (m : Nat) (h : m < 18446744073709551616) : Go.bits .or .u64 (m : Int) 0 = (m : Int) := by
  rw [show (0 : Int) = ((0 : Nat) : Int) from rfl, u64_or_nat m 0 (by omega) (by omega), Nat.or_zero]
theorem flag_f (g : Bool) : hint_flag.f g = some ((flagN g : Nat) : Int) := by cases g <;> rfl
theorem or_flag (m : Nat) (g : Bool) (h : 2 * m < 18446744073709551616) : Go.bits .or .u64 ((2 * m : Nat) : Int) ((flagN g : Nat) : Int) = ((2 * m + flagN g : Nat) : Int) := by
  cases g
  · exact or_zero _ h
  · exact or_one m h
def finB (acc : ByteArray) (l : List Ent) : ByteArray × Int := if allRight l = true then (B (sealS (L acc ++ bodyE l)), 0) else (⟨#[]⟩, 1)
theorem finB_nil (acc : ByteArray) : finB acc [] = (B (sealS (L acc)), 0) := by unfold finB bodyE; rw [List.append_nil]; rfl
theorem finB_cons {acc : ByteArray} {e : Ent} {l : List Ent} (h : rightE e = true) : finB acc (e :: l) = finB (acc ++ B (oneE e)) l := by
  unfold finB
  rw [L_append, L_B, bodyE, List.append_assoc]
  unfold allRight
  rw [List.all_cons, h, Bool.true_and]
theorem finB_bad {acc : ByteArray} {e : Ent} {l : List Ent} (h : rightE e = false) : finB acc (e :: l) = (⟨#[]⟩, 1) := by
  unfold finB allRight
  rw [List.all_cons, h, Bool.false_and]
  rfl
theorem bytesE_fin (l : List Ent) (h : l.length ≤ 2000) : finB (B (putS l.length)) l = (B (bytesE l).1, (bytesE l).2) := by
  unfold finB bytesE
  rw [L_B, if_pos h]
  split <;> rfl
theorem ev_hbytes (l : List Ent) (hn : l.length ≤ 2000) : ∀ (d i : Nat) (acc : ByteArray), i + d = l.length → acc.size ≤ 10 + 80 * i →
    Ev (fun k => hint_Bytes.l0 k acc (l.map ES) (l.length : Int) (i : Int)) (finB acc (l.drop i)) := by
  intro d
  induction d with
  | zero =>
    intro i acc hi ha
    refine Ev.step (fun k => by rw [hint_Bytes.l0]) ?_
    refine ev_if_neg (by omega) ?_
    rw [List.drop_eq_nil_of_le (by omega), finB_nil]
    refine ev_bind_now (crc_Seal_S _ (by omega)) ?_
    exact Ev.now _
  | succ d ih =>
    intro i acc hi ha
    have hlt : i < l.length := by omega
    refine Ev.step (fun k => by rw [hint_Bytes.l0]) ?_
    refine ev_if_pos (by omega) ?_
    refine ev_if_pos (by omega) ?_
    refine ev_if_pos (by simp; omega) ?_
    simp only [rd_ES l i hlt]
    refine ev_bind_now (right_E l[i]) ?_
    rw [drop_at l i hlt]
    cases hr : rightE l[i] with
    | false =>
      rw [finB_bad hr]
      exact ev_bf (Ev.now _)
    | true =>
      rw [finB_cons hr]
      refine ev_bt ?_
      obtain ⟨h1, h2, h3, h4, h5, h6, h7, h8⟩ := rightE_facts hr
      obtain ⟨z1, z2⟩ := oneE_length hr
      generalize l[i] = e at *
      have q1 := B_textS_le e.key
      have q2 := B_putS_le e.off.toNat
      have q3 := B_putS_le (2 * e.len.toNat + flagN e.gone)
      have q4 := B_putS_le e.seq
      have hg := flagN_le e.gone
      have w1 : IntKind.u64.wrap e.off = ((e.off.toNat : Nat) : Int) := by rw [IntKind.wrap_u64]; omega
      have w2 : IntKind.u64.wrap (IntKind.u64.wrap e.len * 2) = ((2 * e.len.toNat : Nat) : Int) := by rw [IntKind.wrap_u64, IntKind.wrap_u64]; omega
      have hone : ((B (textS e.key) ++ B (putS e.off.toNat)) ++ B (putS (2 * e.len.toNat + flagN e.gone))) ++ B (putS e.seq) = B (oneE e) := by unfold oneE; rw [B_append, B_append, B_append]
      have hsz : (B (oneE e)).size ≤ 80 := by rw [B_size]; exact z2
      refine ev_bind_now (text_B _ (by omega)) ?_
      simp only [ES, w1, w2]
      refine ev_bind_now (varint_Put_N _ (by omega)) ?_
      refine ev_if_pos (by omega) ?_
      refine ev_bind_now (flag_f _) ?_
      rw [or_flag _ _ (by omega)]
      refine ev_bind_now (varint_Put_N _ (by omega)) ?_
      refine ev_if_pos (by omega) ?_
      refine ev_bind_now (varint_Put_N _ (by omega)) ?_
      refine ev_if_pos (by omega) ?_
      refine ev_if_pos (by omega) ?_
      rw [hone, wrap64_in (by omega) (by omega)]
      exact ih (i + 1) _ (by omega) (by rw [ByteArray.size_append]; omega)
theorem ev_hBytes (l : List Ent) (hl : l.length ≤ 1000000000) : Ev (fun k => hint_Bytes.f k (l.map ES)) (B (bytesE l).1, (bytesE l).2) := by
  unfold hint_Bytes.f
  rw [List.length_map]
  by_cases hn : l.length ≤ 2000
  · refine ev_if_neg (by omega) ?_
    rw [u64_in (by omega) (by omega)]
    refine ev_bind_now (varint_Put_N _ (by omega)) ?_
    have := ev_hbytes l hn l.length 0 (B (putS l.length)) (by omega) (by have := B_putS_le l.length; omega)
    rw [List.drop_zero, bytesE_fin l hn] at this
    exact this
  · refine ev_if_pos (by omega) ?_
    unfold bytesE
    rw [if_neg hn]
    exact Ev.now _
end Go.Proofs.Ytdjkkceamldmjaa.Thw
