/- Layer 4 (frame): what the printed functions come to, in the plain words of Plain04. -/
import Derived.Test.YtnhmhdconmollaaPrint3
import Derived.Test.YtnhmhdconmollaaPrint5
import Derived.Test.YtnhmhdconmollaaPrint7
import Derived.Test.YtnhmhdconmollaaPrint8
import Derived.Test.YtnhmhdconmollaaEv02r
import Derived.Test.YtnhmhdconmollaaEv03m
import Derived.Test.YtnhmhdconmollaaPlain04
namespace Go.Proofs.Ytnhmhdconmollaa.Thw
open Go Go.RowKit Go.Proofs.Ytnhmhdconmollaa.Print Go.Proofs.YtnhmhdconmollaaW.PrintWords Go.Proofs.YtnhmhdconmollaaW.PrintLast Go.Proofs.YtnhmhdconmollaaW.PrintMore
set_option linter.unusedVariables false
set_option linter.unusedSimpArgs false

theorem fits_f (n : Nat) : frame_fits.f (n : Int) = some (decide (1 ≤ n) && decide (n ≤ 16)) := by
  unfold frame_fits.f
  by_cases h : 1 ≤ n
  · rw [if_pos (by omega), decide_eq_true h]
    congr 1
    simp
    omega
  · rw [if_neg (by omega), decide_eq_false h]
    rfl
theorem B_seal_le {l : List Rec} (h : fitsS l = true) : (B (sealS (allS l).1)).size ≤ 7000 := by rw [B_size]; exact seal_len h
theorem seal_B (l : Bs) (h : l.length ≤ 4611686018427387904) : crc_Seal.f (B l) = some (B (sealS l)) := by
  rw [crc_Seal_S _ (by rw [B_size]; exact h), L_B]
theorem ev_rSeal_B (l : Bs) (h : l.length ≤ 4611686018427387904) : Ev (fun k => thwartref02_Seal.f k (B l)) (B (sealS l)) := by
  have := ev_rSeal (B l) (by rw [B_size]; exact h)
  rwa [L_B] at this
theorem ev_frameBytes (l : List Rec) : Ev (fun k => frame_Bytes.f k (l.map RS)) (B (frameS l).1, (frameS l).2) := by
  unfold frame_Bytes.f
  rw [List.length_map, fits_f]
  refine ev_bind_now rfl ?_
  change Ev (fun k => if fitsS l = true then _ else _) _
  unfold frameS
  cases hf : fitsS l with
  | false => exact ev_bf (Ev.now _)
  | true =>
    refine ev_bt ?_
    have hz := fits_facts hf
    refine Ev.bind (ev_All l (by omega)) ?_
    rw [if_pos (rfl : true = true)]
    by_cases ha : (allS l).2 = 0
    · refine ev_if_pos ha ?_
      rw [if_pos ha]
      have h1 := allS_length l
      refine ev_bind_now (seal_B _ (by omega)) ?_
      have h2 := seal_len hf
      refine ev_bind_now (text_B _ (by omega)) ?_
      exact Ev.now _
    · refine ev_if_neg ha ?_
      rw [if_neg ha]
      exact Ev.now _
theorem ev_rframeBytes (l : List Rec) : Ev (fun k => thwartref04_Bytes.f k (l.map RS)) (B (frameS l).1, (frameS l).2) := by
  have no : fitsS l = false → Ev (fun k => thwartref04_Bytes.j0 k (l.map RS) true) (B (frameS l).1, (frameS l).2) := by
    intro h
    refine Ev.step (fun k => by rw [thwartref04_Bytes.j0]) ?_
    unfold frameS
    rw [h]
    exact ev_bt (Ev.now _)
  unfold thwartref04_Bytes.f
  rw [List.length_map]
  by_cases h1 : 1 ≤ l.length
  case neg => exact ev_if_pos (by omega) (no (by unfold fitsS; simp; omega))
  refine ev_if_neg (by omega) ?_
  by_cases h2 : l.length ≤ 16
  case neg =>
    rw [decide_eq_true (by omega)]
    exact no (by unfold fitsS; simp; omega)
  rw [decide_eq_false (by omega)]
  have hf : fitsS l = true := by unfold fitsS; simp; omega
  refine Ev.step (fun k => by rw [thwartref04_Bytes.j0]) ?_
  refine ev_bf ?_
  refine Ev.bind (ev_rAll l (by omega)) ?_
  unfold frameS
  rw [hf, if_pos (rfl : true = true)]
  by_cases ha : (allS l).2 = 0
  · refine ev_if_pos ha ?_
    rw [if_pos ha]
    have h1 := allS_length l
    refine Ev.bind (ev_rSeal_B _ (by omega)) ?_
    have h2 := seal_len hf
    refine Ev.bind (ev_rText_B _ (by omega)) ?_
    exact Ev.now _
  · refine ev_if_neg ha ?_
    rw [if_neg ha]
    exact Ev.now _
def TF (x : List Rec × Int × Int) : List SR × Int × Int := (x.1.map RS, x.2.1, x.2.2)
theorem ofTextS_len1 (b : Bs) : (ofTextS b).1.length ≤ b.length := by
  rcases ofTextS_told b with ⟨_, h, _⟩ | h | h
  · have : (textS (ofTextS b).1 ++ (ofTextS b).2.1).length = b.length := by rw [h]
    unfold textS at this
    simp at this
    omega
  · rw [h]; simp
  · rw [h]; simp
theorem openS_len (l : Bs) : (openS l).1.length ≤ l.length := by
  rcases openS_told l with ⟨s, h1, h2⟩ | h
  · rw [h1, ← h2, sealS_length]; simp
  · rw [h]; simp
theorem open_B (l : Bs) (h : l.length ≤ 4611686018427387904) : crc_Open.f (B l) = some (B (openS l).1, (openS l).2) := by
  rw [crc_Open_S _ (by rw [B_size]; exact h), L_B]
theorem ev_rOpen_B (l : Bs) (h : l.length ≤ 4611686018427387904) : Ev (fun k => thwartref02_Open.f k (B l)) (B (openS l).1, (openS l).2) := by
  have := ev_rOpen (B l) (by rw [B_size]; exact h)
  rwa [L_B] at this
theorem ev_List_B (l : Bs) (h : l.length ≤ 1000000000) : Ev (fun k => record_List.f k (B l)) ((listS l).1.map RS, (listS l).2) := by
  have := ev_List (B l) (by rw [B_size]; exact h)
  rwa [L_B] at this
theorem ev_rList_B (l : Bs) (h : l.length ≤ 1000000000) : Ev (fun k => thwartref03_List.f k (B l)) ((listS l).1.map RS, (listS l).2) := by
  have := ev_rList (B l) (by rw [B_size]; exact h)
  rwa [L_B] at this
theorem ev_frameTake (b : ByteArray) (hb : b.size ≤ 1000000000) : Ev (fun k => frame_Take.f k b) (TF (takeF (L b))) := by
  have hl := L_length b
  unfold frame_Take.f
  refine Ev.bind (ev_OfText b (by omega)) ?_
  unfold takeF
  have z1 := ofTextS_len (L b)
  have z2 := ofTextS_len1 (L b)
  generalize ofTextS (L b) = O at *
  obtain ⟨t, rest, e⟩ := O
  simp only [OT] at z1 z2 ⊢
  by_cases he : e = 0
  case neg => rw [if_neg he]; exact ev_if_neg he (Ev.now _)
  rw [if_pos he]
  refine ev_if_pos he ?_
  refine ev_bind_now (open_B t (by omega)) ?_
  have z3 := openS_len t
  generalize openS t = P at *
  obtain ⟨s, ok⟩ := P
  simp only [] at z3 ⊢
  cases ok with
  | false => exact ev_bf (Ev.now _)
  | true =>
    refine ev_bt ?_
    refine Ev.bind (ev_List_B s (by omega)) ?_
    rw [if_pos (rfl : true = true)]
    by_cases h2 : (listS s).2 = 0
    case neg =>
      refine ev_if_neg h2 ?_
      rw [if_neg h2]
      exact Ev.now _
    refine ev_if_pos h2 ?_
    rw [if_pos h2]
    refine ev_bind_now (by rw [List.length_map, fits_f]) ?_
    change Ev (fun k => if fitsS (listS s).1 = true then _ else _) _
    cases hf : fitsS (listS s).1 with
    | false => exact ev_bf (Ev.now _)
    | true =>
      refine ev_bt ?_
      refine ev_some fun k => ?_
      rw [wrap64_in (by rw [B_size]; omega) (by rw [B_size]; omega), B_size, if_pos (rfl : true = true), hl]
      rfl
theorem ev_rframeTake (b : ByteArray) (hb : b.size ≤ 1000000000) : Ev (fun k => thwartref04_Take.f k b) (TF (takeF (L b))) := by
  have hl := L_length b
  unfold thwartref04_Take.f
  refine Ev.bind (ev_rOfText b (by omega)) ?_
  unfold takeF
  have z1 := ofTextS_len (L b)
  have z2 := ofTextS_len1 (L b)
  generalize ofTextS (L b) = O at *
  obtain ⟨t, rest, e⟩ := O
  simp only [OT] at z1 z2 ⊢
  by_cases he : e = 0
  case neg => rw [if_neg he]; exact ev_if_neg he (Ev.now _)
  rw [if_pos he]
  refine ev_if_pos he ?_
  refine Ev.bind (ev_rOpen_B t (by omega)) ?_
  have z3 := openS_len t
  generalize openS t = P at *
  obtain ⟨s, ok⟩ := P
  simp only [] at z3 ⊢
  cases ok with
  | false => exact ev_bf (Ev.now _)
  | true =>
    refine ev_bt ?_
    refine Ev.bind (ev_rList_B s (by omega)) ?_
    rw [if_pos (rfl : true = true)]
    by_cases h2 : (listS s).2 = 0
    case neg =>
      refine ev_if_neg h2 ?_
      rw [if_neg h2]
      exact Ev.now _
    refine ev_if_pos h2 ?_
    rw [if_pos h2]
    simp only [List.length_map]
    by_cases h3 : 1 ≤ (listS s).1.length
    case neg =>
      rw [show fitsS (listS s).1 = false by unfold fitsS; simp; omega]
      exact ev_if_pos (by omega) (Ev.now _)
    refine ev_if_neg (by omega) ?_
    by_cases h4 : (listS s).1.length ≤ 16
    case neg =>
      rw [show fitsS (listS s).1 = false by unfold fitsS; simp; omega]
      exact ev_if_pos (by omega) (Ev.now _)
    refine ev_if_neg (by omega) ?_
    rw [show fitsS (listS s).1 = true by unfold fitsS; simp; omega]
    refine ev_some fun k => ?_
    rw [wrap64_in (by rw [B_size]; omega) (by rw [B_size]; omega), B_size, if_pos (rfl : true = true), hl]
    rfl
/-! ### Scan -/
def RSS (ls : List (List Rec)) : List (List SR) := ls.map (List.map RS)
def finC (acc : List (List Rec)) (at_ : Nat) (x : List (List Rec) × Nat) : List (List SR) × Int := (RSS (acc ++ x.1), ((at_ + x.2 : Nat) : Int))
theorem ev_scan (b : ByteArray) (hb : b.size ≤ 100000000) : ∀ (f at_ : Nat) (acc : List (List Rec)), (L b).length ≤ at_ + f → at_ ≤ (L b).length → acc.length ≤ at_ →
    Ev (fun k => frame_Scan.l0 k b (RSS acc) (at_ : Int)) (finC acc at_ (scanR f ((L b).drop at_))) := by
  have hl := L_length b
  intro f
  induction f with
  | zero =>
    intro at_ acc h1 h2 h3
    refine Ev.step (fun k => by rw [frame_Scan.l0]) ?_
    refine ev_if_pos (by omega) ?_
    refine ev_if_pos (by omega) ?_
    simp only [Int.toNat_natCast, extract_end]
    rw [List.drop_eq_nil_of_le (by omega)]
    refine Ev.bind (ev_frameTake _ (by decide)) ?_
    rw [L_B]
    refine ev_if_neg (by decide +kernel) ?_
    exact ev_some fun k => by simp [finC, scanR]
  | succ f ih =>
    intro at_ acc h1 h2 h3
    refine Ev.step (fun k => by rw [frame_Scan.l0]) ?_
    refine ev_if_pos (by omega) ?_
    refine ev_if_pos (by omega) ?_
    simp only [Int.toNat_natCast, extract_end]
    refine Ev.bind (ev_frameTake _ (by rw [B_size]; simp; omega)) ?_
    rw [L_B, scanR]
    obtain ⟨t1, t2, t3, t4⟩ := takeF_range ((L b).drop at_)
    rw [List.length_drop] at t2
    by_cases h : (takeF ((L b).drop at_)).2.2 = 0
    · rw [if_pos h]
      refine ev_if_pos h ?_
      have t3 := t3 h
      refine ev_if_pos (by show (RSS acc).length < _; unfold RSS; rw [List.length_map]; omega) ?_
      have e : wrap64 ((at_ : Int) + (TF (takeF ((L b).drop at_))).2.1) = ((at_ + (takeF ((L b).drop at_)).2.1.toNat : Nat) : Int) := by
        show wrap64 ((at_ : Int) + (takeF ((L b).drop at_)).2.1) = _
        rw [wrap64_in (by omega) (by omega)]; omega
      rw [e]
      have := ih (at_ + (takeF ((L b).drop at_)).2.1.toNat) (acc ++ [(takeF ((L b).drop at_)).1]) (by omega) (by omega) (by simp; omega)
      rw [← List.drop_drop] at this
      have e2 : RSS acc ++ [(TF (takeF ((L b).drop at_))).1] = RSS (acc ++ [(takeF ((L b).drop at_)).1]) := by simp [RSS, TF]
      rw [e2]
      refine cast (congrArg (Ev _) ?_) this
      unfold finC
      simp [Nat.add_assoc]
    · rw [if_neg h]
      refine ev_if_neg h ?_
      exact ev_some fun k => by simp [finC]
def SC (b : ByteArray) : List (List SR) × Int := (RSS (scanS (L b)).1, ((scanS (L b)).2 : Int))
theorem ev_Scan (b : ByteArray) (hb : b.size ≤ 100000000) : Ev (fun k => frame_Scan.f k b) (SC b) := by
  unfold frame_Scan.f
  have := ev_scan b hb (L b).length 0 [] (by omega) (by omega) (by simp)
  refine cast (congrArg (Ev _) ?_) this
  simp [finC, SC, scanS]
theorem ev_rscan (b : ByteArray) (hb : b.size ≤ 100000000) : ∀ (f at_ : Nat) (acc : List (List Rec)), (L b).length ≤ at_ + f → at_ ≤ (L b).length → acc.length ≤ at_ →
    Ev (fun k => thwartref04_Scan.l0 k b (RSS acc) (at_ : Int)) (finC acc at_ (scanR f ((L b).drop at_))) := by
  have hl := L_length b
  intro f
  induction f with
  | zero =>
    intro at_ acc h1 h2 h3
    refine Ev.step (fun k => by rw [thwartref04_Scan.l0]) ?_
    refine ev_if_pos (by omega) ?_
    refine ev_if_pos (by omega) ?_
    simp only [Int.toNat_natCast, extract_end]
    rw [List.drop_eq_nil_of_le (by omega)]
    refine Ev.bind (ev_rframeTake _ (by decide)) ?_
    rw [L_B]
    refine ev_if_neg (by decide +kernel) ?_
    exact ev_some fun k => by simp [finC, scanR]
  | succ f ih =>
    intro at_ acc h1 h2 h3
    refine Ev.step (fun k => by rw [thwartref04_Scan.l0]) ?_
    refine ev_if_pos (by omega) ?_
    refine ev_if_pos (by omega) ?_
    simp only [Int.toNat_natCast, extract_end]
    refine Ev.bind (ev_rframeTake _ (by rw [B_size]; simp; omega)) ?_
    rw [L_B, scanR]
    obtain ⟨t1, t2, t3, t4⟩ := takeF_range ((L b).drop at_)
    rw [List.length_drop] at t2
    by_cases h : (takeF ((L b).drop at_)).2.2 = 0
    · rw [if_pos h]
      refine ev_if_pos h ?_
      have t3 := t3 h
      refine ev_if_pos (by show (RSS acc).length < _; unfold RSS; rw [List.length_map]; omega) ?_
      have e : wrap64 ((at_ : Int) + (TF (takeF ((L b).drop at_))).2.1) = ((at_ + (takeF ((L b).drop at_)).2.1.toNat : Nat) : Int) := by
        show wrap64 ((at_ : Int) + (takeF ((L b).drop at_)).2.1) = _
        rw [wrap64_in (by omega) (by omega)]; omega
      rw [e]
      have := ih (at_ + (takeF ((L b).drop at_)).2.1.toNat) (acc ++ [(takeF ((L b).drop at_)).1]) (by omega) (by omega) (by simp; omega)
      rw [← List.drop_drop] at this
      have e2 : RSS acc ++ [(TF (takeF ((L b).drop at_))).1] = RSS (acc ++ [(takeF ((L b).drop at_)).1]) := by simp [RSS, TF]
      rw [e2]
      refine cast (congrArg (Ev _) ?_) this
      unfold finC
      simp [Nat.add_assoc]
    · rw [if_neg h]
      refine ev_if_neg h ?_
      exact ev_some fun k => by simp [finC]
theorem ev_rScan (b : ByteArray) (hb : b.size ≤ 100000000) : Ev (fun k => thwartref04_Scan.f k b) (SC b) := by
  unfold thwartref04_Scan.f
  have := ev_rscan b hb (L b).length 0 [] (by omega) (by omega) (by simp)
  refine cast (congrArg (Ev _) ?_) this
  simp [finC, SC, scanS]
/-! ### Same -/
theorem rd_RSS (ls : List (List Rec)) (i : Nat) (h : i < ls.length) : rd_L6 (RSS ls) (i : Int) = (ls[i]).map RS := by
  unfold rd_L6 RSS
  simp [List.getD_eq_getElem?_getD, h]
theorem ev_same4 (us vs : List (List Rec)) (hl : us.length = vs.length) (hn : us.length ≤ 1000000000) (hw : ∀ l ∈ us, l.length ≤ 1000000000) : ∀ d i : Nat, i + d = us.length →
    Ev (fun k => thwartref04_Same.l0 k (RSS us) (RSS vs) (i : Int)) (decide (us.drop i = vs.drop i)) := by
  have e1 : (RSS us).length = us.length := List.length_map _
  have e2 : (RSS vs).length = vs.length := List.length_map _
  intro d
  induction d with
  | zero =>
    intro i hi
    refine Ev.step (fun k => by rw [thwartref04_Same.l0]) ?_
    refine ev_if_neg (by omega) ?_
    rw [List.drop_eq_nil_of_le (by omega), List.drop_eq_nil_of_le (by omega)]
    exact ev_some fun k => by simp
  | succ d ih =>
    intro i hi
    have h1 : i < us.length := by omega
    have h2 : i < vs.length := by omega
    refine Ev.step (fun k => by rw [thwartref04_Same.l0]) ?_
    refine ev_if_pos (by omega) ?_
    refine ev_if_pos (by omega) ?_
    refine ev_if_pos (by omega) ?_
    rw [rd_RSS us i h1, rd_RSS vs i h2]
    refine Ev.bind (ev_Same us[i] vs[i] (hw _ (List.getElem_mem h1))) ?_
    rw [drop_cons us i h1, drop_cons vs i h2]
    by_cases he : us[i] = vs[i]
    · rw [decide_eq_true he]
      refine ev_bt ?_
      rw [wrap64_in (by omega) (by omega), he]
      have := ih (i + 1) (by omega)
      simp only [List.cons.injEq, true_and]
      exact this
    · rw [decide_eq_false he]
      refine ev_bf ?_
      exact ev_some fun k => by rw [decide_eq_false (fun h => he (List.cons.inj h).1)]
theorem ev_Same4 (us vs : List (List Rec)) (hn : us.length ≤ 1000000000) (hw : ∀ l ∈ us, l.length ≤ 1000000000) : Ev (fun k => thwartref04_Same.f k (RSS us) (RSS vs)) (decide (us = vs)) := by
  have e1 : (RSS us).length = us.length := List.length_map _
  have e2 : (RSS vs).length = vs.length := List.length_map _
  unfold thwartref04_Same.f
  by_cases hl : us.length = vs.length
  · refine ev_if_pos (by omega) ?_
    have := ev_same4 us vs hl hn hw us.length 0 (by omega)
    simpa using this
  · refine ev_if_neg (by omega) ?_
    refine ev_some fun k => ?_
    rw [decide_eq_false (fun h => hl (by rw [h]))]
/-! ### awake -/
theorem ev_awake04 : Ev (fun k => thwartlaw04_awake.f k) true := by
  unfold thwartlaw04_awake.f
  have e1 := ev_frameBytes [⟨3, [107], [118], false⟩, ⟨4, [107], [], true⟩]
  have e2 := ev_frameBytes [⟨4, [107], [], true⟩]
  have hX0 : (frameS [⟨3, [107], [118], false⟩, ⟨4, [107], [], true⟩]).2 = 0 := by decide +kernel
  have hY0 : (frameS [⟨4, [107], [], true⟩]).2 = 0 := by decide +kernel
  obtain ⟨X, hX⟩ : ∃ X, frameS [⟨3, [107], [118], false⟩, ⟨4, [107], [], true⟩] = (X, 0) := ⟨_, Prod.ext rfl hX0⟩
  obtain ⟨Y, hY⟩ : ∃ Y, frameS [⟨4, [107], [], true⟩] = (Y, 0) := ⟨_, Prod.ext rfl hY0⟩
  have lX := frameS_length hX0
  have lY := frameS_length hY0
  have tX := takeF_frame _ [120] hX0
  rw [hX] at e1 lX tX
  rw [hY] at e2 lY
  simp only [] at lX lY
  refine Ev.bind e1 ?_
  refine Ev.bind e2 ?_
  refine ev_if_pos (by show (B X).size + 1 ≤ _; rw [B_size]; omega) ?_
  have e3 := ev_frameTake (B X ++ ⟨#[120]⟩) (by rw [ByteArray.size_append, B_size]; show X.length + 1 ≤ _; omega)
  rw [L_append, L_B, show L ⟨#[120]⟩ = [120] from rfl, tX] at e3
  refine Ev.bind e3 ?_
  refine ev_if_neg (by show ¬ ((B Y).size : Int) = 0; rw [B_size]; omega) ?_
  have ew : wrap64 (((B Y).size : Int) - 1) = ((Y.length - 1 : Nat) : Int) := by rw [B_size, wrap64_in (by omega) (by omega)]; omega
  simp only [ew]
  refine ev_if_pos (by omega) ?_
  refine ev_if_pos (by rw [B_size]; omega) ?_
  rw [Int.toNat_natCast, extract_front, L_B]
  refine ev_if_pos (by rw [B_size, B_size]; simp; omega) ?_
  have e4 := ev_Scan (B X ++ B (Y.take (Y.length - 1))) (by rw [ByteArray.size_append, B_size, B_size]; simp; omega)
  have cY := takeF_cut _ (Y.length - 1) hY0 (by rw [hY]; show Y.length - 1 < Y.length; omega)
  rw [hY] at cY
  have s4 : scanS (L (B X ++ B (Y.take (Y.length - 1)))) = ([[⟨3, [107], [118], false⟩, ⟨4, [107], [], true⟩]], X.length) := by
    have := scanR_frames [[⟨3, [107], [118], false⟩, ⟨4, [107], [], true⟩]] (Y.take (Y.length - 1)) _ (by simpa using hX0) (by rw [cY]; decide) (Nat.le_refl _)
    have ef : framesS [[⟨3, [107], [118], false⟩, ⟨4, [107], [], true⟩]] = X := by simp [framesS, hX]
    rw [ef] at this
    rw [L_append, L_B, L_B]
    exact this
  unfold SC at e4
  rw [s4] at e4
  refine Ev.bind e4 ?_
  refine ev_if_pos (by first | rfl | trivial) ?_
  refine ev_if_pos (by first | rfl | trivial) ?_
  refine ev_if_pos (by first | rfl | trivial) ?_
  refine ev_if_pos (by show (X.length : Int) = ((B X).size : Int); rw [B_size]) ?_
  refine ev_if_pos (by first | rfl | trivial) ?_
  refine ev_if_pos (by show (0 : Int) < ((2 : Nat) : Int); omega) ?_
  refine ev_if_pos (by simp only [TF]; decide +kernel) ?_
  refine ev_if_pos (by show (1 : Int) < ((2 : Nat) : Int); omega) ?_
  refine ev_if_pos (by simp only [TF]; decide +kernel) ?_
  refine ev_if_pos (by first | rfl | trivial) ?_
  refine ev_some fun k => ?_
  show some (((X.length : Nat) : Int) == ((B X).size : Int)) = some true
  rw [B_size, beq_self_eq_true]
theorem wf_list4 {l : List SR} (h : ∀ e ∈ l, (Lit.int .u64 e.f0).wf = true ∧ e.f1.size ≤ 9223372036854775807 ∧ e.f2.size ≤ 9223372036854775807 ∧ True) : ∃ rs : List Rec, l = rs.map RS :=
  unRSs l (fun x hx => (wf_u64 (h x hx).1).1)
theorem wf_lists : ∀ (ls : List (List SR)), (∀ l ∈ ls, l.length ≤ 9223372036854775807 ∧ ∀ e ∈ l, (Lit.int .u64 e.f0).wf = true ∧ e.f1.size ≤ 9223372036854775807 ∧ e.f2.size ≤ 9223372036854775807 ∧ True) → ∃ rs : List (List Rec), ls = RSS rs
  | [], _ => ⟨[], rfl⟩
  | l :: ls, h => by
    obtain ⟨r, hr⟩ := wf_list4 (h l (by simp)).2
    obtain ⟨rs, hs⟩ := wf_lists ls (fun x hx => h x (by simp [hx]))
    exact ⟨r :: rs, by rw [hr, hs]; rfl⟩
end Go.Proofs.Ytnhmhdconmollaa.Thw
