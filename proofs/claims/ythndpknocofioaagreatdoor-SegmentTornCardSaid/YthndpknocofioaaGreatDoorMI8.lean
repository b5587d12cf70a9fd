/- Layer 8 (segment): SegmentHints' walk. -/
import Derived.Test.YthndpknocofioaaGreatDoorMS8
namespace Go.Proofs.YthndpknocofioaaGreatDoor.Thw
open Go Go.RowKit Go.Maps Go.Proofs.YthndpknocofioaaGreatDoor.Print Go.Proofs.YthndpknocofioaaGreatDoorW.PrintWords Go.Proofs.YthndpknocofioaaGreatDoorW.PrintLast Go.Proofs.YthndpknocofioaaGreatDoorW.PrintMore
set_option linter.unusedVariables false
set_option linter.unusedSimpArgs false
abbrev kL := Kd.slice 50 kR
theorem rows_at {w : World} {A : Option Addr} {xs : List (List SR)} (h : Kd.C kL w A xs.length xs) (i : Nat) (hi : i < xs.length) : ∃ ad A5 c5, A = some ad ∧ w.cell? (ad.add i) = some (.slice A5 xs[i].length c5) ∧ xs[i].length ≤ c5 ∧ Kd.C kR w A5 xs[i].length xs[i] := by
  obtain ⟨ad, rfl, hc⟩ := h.2.2 (by omega)
  obtain ⟨c, hl2, hK, hcell⟩ := hc i xs[i] (List.getElem?_eq_getElem hi)
  obtain ⟨A5, c5, rfl, h5, hC⟩ := hK
  have := hcell 0 _ rfl
  have e1 : i * kL.sz + 0 = i := by show i * 1 + 0 = i; omega
  rw [e1] at this
  exact ⟨ad, A5, c5, rfl, this, h5, hC⟩
theorem RSS_len (ls : List (List Rec)) : (RSS ls).length = ls.length := List.length_map _
/-- The disk behind the first i batches. -/
def mAt (k : ByteArray) (ls : List (List Rec)) (i : Nat) : Fls := if i = 0 then [] else [(k, ⟨B (framesS (ls.take i)), 0⟩)]
theorem mAt_one (k : ByteArray) (ls : List (List Rec)) (i : Nat) : OneK k (mAt k ls i) (B (framesS (ls.take i))) 0 := by
  unfold mAt
  split
  · rename_i h
    subst h
    exact Or.inl ⟨rfl, rfl, rfl⟩
  · exact Or.inr rfl
theorem mAt_succ (k : ByteArray) (ls : List (List Rec)) (i : Nat) : mAt k ls (i + 1) = [(k, ⟨B (framesS (ls.take (i + 1))), 0⟩)] := by unfold mAt; rw [if_neg (by omega)]
theorem mAt_sm {k : ByteArray} {ls : List (List Rec)} {i : Nat} {R : Int} (hR : 0 ≤ R ∧ R ≤ 1048576) (h : ∀ l ∈ ls.take i, (frameS l).2 = 0) (hn : ls.length ≤ 20) : (dkR R (mAt k ls i)).Sm 142000 := by
  refine sm_of (by decide) hR fun p hp => ?_
  unfold mAt at hp
  split at hp
  · cases hp
  · rw [List.mem_singleton.1 hp]
    have h1 := frames_le (ls.take i) h
    have h2 : (ls.take i).length ≤ 20 := by rw [List.length_take]; omega
    show (B (framesS (ls.take i))).size ≤ 142000
    rw [B_size]
    omega
theorem ok_snoc {ls : List (List Rec)} {i : Nat} (hi : i < ls.length) (h : ∀ l ∈ ls.take i, (frameS l).2 = 0) (hl : (frameS ls[i]).2 = 0) : ∀ l ∈ ls.take (i + 1), (frameS l).2 = 0 := by
  intro l hm
  rw [List.take_succ_eq_append_getElem hi] at hm
  rcases List.mem_append.1 hm with hm | hm
  · exact h l hm
  · rw [List.mem_singleton.1 hm]; exact hl
theorem write_at {n : Nat} (hn9 : n ≤ 999999) {ls : List (List Rec)} {i : Nat} (hi : i < ls.length) (hn : ls.length ≤ 20) (h : ∀ l ∈ ls.take i, (frameS l).2 = 0) :
    ((frameS ls[i]).2 = 0 ∧ segWrite (dkR 262144 (mAt (sgN n) ls i)) n ls[i] = (dkR 262144 (mAt (sgN n) ls (i + 1)), ofL (framesS (ls.take i)).length [ls[i]], 0)) ∨ segWrite (dkR 262144 (mAt (sgN n) ls i)) n ls[i] = (dkR 262144 (mAt (sgN n) ls i), [], 1) := by
  have hr : rightN n = true := by unfold rightN; simp; omega
  rcases frame_codes ls[i] with ⟨h0, hz, _⟩ | hb
  · refine Or.inl ⟨h0, ?_⟩
    have h1 := frames_le (ls.take i) h
    have h2 : (ls.take i).length ≤ 20 := by rw [List.length_take]; omega
    rw [write_frames hr (right_name 115 n hn9) (by decide) (mAt_one (sgN n) ls i) h0 (by omega), mAt_succ, List.take_succ_eq_append_getElem hi]
  · refine Or.inr ?_
    unfold segWrite
    rw [if_pos hr, hb, if_neg (by decide)]
/-- What a sealed disk of batches is. -/
theorem sealed {n : Nat} (hn9 : n ≤ 999999) {ls : List (List Rec)} (hn : ls.length ≤ 20) (h0 : 0 < ls.length) (h : ∀ l ∈ ls, (frameS l).2 = 0) : ∃ g : DFile, g.b.size ≤ 30000 ∧
    segSeal (dkR 262144 (mAt (sgN n) ls ls.length)) n = (dkR 262144 [(sgN n, ⟨B (framesS ls), 0⟩), (sgH n, g)], 0) ∧
    segIndex (dkR 262144 [(sgN n, ⟨B (framesS ls), 0⟩), (sgH n, g)]) n = (dkR 262144 [(sgN n, ⟨B (framesS ls), 0⟩), (sgH n, g)], ofL 0 ls, 0) ∧
    segLoad (dkR 262144 [(sgN n, ⟨B (framesS ls), 0⟩), (sgH n, g)]) n = (dkR 262144 [(sgN n, ⟨B (framesS ls), 0⟩), (sgH n, g)], ofL 0 ls, 0) ∧
    (dkR 262144 [(sgN n, ⟨B (framesS ls), 0⟩), (sgH n, g)]).remove (sgH n) = (dkR 262144 [(sgN n, ⟨B (framesS ls), 0⟩)], 0) ∧
    segIndex (dkR 262144 [(sgN n, ⟨B (framesS ls), 0⟩)]) n = (dkR 262144 [(sgN n, ⟨B (framesS ls), 0⟩)], ofL 0 ls, 0) ∧
    segLoad (dkR 262144 [(sgN n, ⟨B (framesS ls), 0⟩)]) n = (dkR 262144 [(sgN n, ⟨B (framesS ls), 0⟩)], ofL 0 ls, 0) := by
  have hr : rightN n = true := by unfold rightN; simp; omega
  have hR : (0 : Int) ≤ 262144 ∧ (262144 : Int) ≤ 1048576 := by decide
  have hne : sgN (n : Int) ≠ sgH n := fun e => by
    have h1 := name_num n hn9
    rw [e, hints_num n hn9] at h1
    cases h1
  have hfl := frames_le ls h
  have hm : mAt (sgN n) ls ls.length = [(sgN n, ⟨B (framesS ls), 0⟩)] := by unfold mAt; rw [if_neg (by omega), List.take_length]
  have hl1 : look (dkR 262144 [(sgN (n : Int), (⟨B (framesS ls), 0⟩ : DFile))]).m (sgN n) = some ⟨B (framesS ls), 0⟩ := by simp [dkR, look]
  have hlo := load_whole (st := dkR 262144 [(sgN n, ⟨B (framesS ls), 0⟩)]) hr hl1 h
  obtain ⟨hb0, hrd⟩ := hints_back ls h (by omega) (by omega)
  have hbl := bytesE_length (ofL 0 ls)
  have hfe := flat_le ls h
  rw [ofL_length] at hbl
  have hh := hint_new (R := 262144) (f := ⟨B (framesS ls), 0⟩) (l := ofL 0 ls) hr hne (right_name 104 n hn9) hR hb0 (by simp only [B_size]; omega)
  refine ⟨⟨B (bytesE (ofL 0 ls)).1, ((B (bytesE (ofL 0 ls)).1).size : Nat)⟩, by simp only [B_size]; omega, ?_, ?_, ?_, remove_two hne, ?_, hlo⟩
  · unfold segSeal
    rw [hm, hlo, if_pos rfl]
    exact hh
  · have hl2 : look (dkR 262144 [(sgN (n : Int), (⟨B (framesS ls), 0⟩ : DFile)), (sgH n, ⟨B (bytesE (ofL 0 ls)).1, ((B (bytesE (ofL 0 ls)).1).size : Nat)⟩)]).m (sgH n) = some ⟨B (bytesE (ofL 0 ls)).1, ((B (bytesE (ofL 0 ls)).1).size : Nat)⟩ := by simp [dkR, look, hne]
    unfold segIndex
    rw [told_of hr hl2 hrd, if_pos (Or.inl rfl)]
  · exact load_whole (s := 0) hr (by simp [dkR, look]) h
  · have ht : segTold (dkR 262144 [(sgN (n : Int), (⟨B (framesS ls), 0⟩ : DFile))]) n = ([], 5) := by
      unfold segTold
      rw [if_pos hr]
      have : (dkR 262144 [(sgN (n : Int), (⟨B (framesS ls), 0⟩ : DFile))]).bytes (sgH n) = (⟨#[]⟩, 5) := by simp [Dsk.bytes, dkR, look, hne]
      rw [this, if_neg (by decide)]
    unfold segIndex
    rw [ht, if_neg (by decide), hlo]
theorem seal_none {n : Nat} (hn9 : n ≤ 999999) : segSeal (dkR 262144 []) n = (dkR 262144 [], 5) := by
  have hr : rightN n = true := by unfold rightN; simp; omega
  have hlo : segLoad (dkR 262144 []) n = (dkR 262144 [], [], 5) := by
    unfold segLoad
    have : (dkR 262144 []).bytes (sgN n) = (⟨#[]⟩, 5) := rfl
    rw [if_pos hr, this, if_neg (by decide)]
  unfold segSeal
  rw [hlo, if_neg (by decide)]
/-- A disk whose blocks lie behind B, in a world behind that. -/
structure At8 (w0 w : World) (T : Nat → Prop) (d : Nat) (st : Dsk) : Prop where
  at_ : DskAt w T d st
  lo : ∀ k, T k → w0.heap.size ≤ k
  hi : ∀ k, T k → k < w.heap.size
  be : Below w0.heap.size w0 w
theorem At8.below {w0 w w' : World} {T : Nat → Prop} {d : Nat} {st : Dsk} (h : At8 w0 w T d st) (b : Below w.heap.size w w') : At8 w0 w' T d st :=
  ⟨h.at_.below b, h.lo, fun k hk => Nat.lt_of_lt_of_le (h.hi k hk) b.size, h.be.trans (b.mono h.be.size)⟩
theorem At8.next {w0 w w' : World} {T T' : Nat → Prop} {d : Nat} {st st' : Dsk} (h : At8 w0 w T d st) (h' : DskAt w' T' d st') (hT : ∀ k, T' k → gr T w k ∧ k < w'.heap.size) (f : Frm T w w') : At8 w0 w' T' d st' :=
  ⟨h', fun k hk => (hT k hk).1.elim (h.lo k) (fun hle => Nat.le_trans h.be.size hle), fun k hk => (hT k hk).2, frm_below h.be h.lo f⟩
theorem At8.laid {w0 w : World} {T : Nat → Prop} {d : Nat} {st : Dsk} (h : At8 w0 w T d st) (hL : LaidW w0) : ∀ W, Frm T w W → LaidW W := hL.frm h.be h.lo
theorem C_of_R {α : Type} {d : Kd α} {e : Nat} {w : World} {base : Nat} {ok : Nat → Prop} {A : Option Addr} {n c : Nat} {xs : List α} (h : d.R e w base ok (.slice A n c) xs) : d.C w A n xs := by
  obtain ⟨h1, h2, h3⟩ := Kd.R_reads' h
  rw [h1]
  exact h3
set_option maxHeartbeats 12800000 in
set_option maxRecDepth 100000 in
theorem hints_walk (A0 : Option Addr) (c0 : Nat) (ls : List (List Rec)) (gone : Bool) (w : World) (hC : Kd.C kL w A0 (RSS ls).length (RSS ls)) (hc0 : (RSS ls).length ≤ c0) (hnl : ls.length ≤ 1000000000000000) (hL : LaidW w) :
    Calls Tryz.prog 4 #[.slice A0 (RSS ls).length c0, .bool gone] w fun e w' => e = .returned (.bool true) ∧ Below w.heap.size w w' := by
  obtain ⟨t, ht, hl⟩ := ev_light4 (RSS ls) (by rw [RSS_len]; exact hnl) (RSS ls).length 0 0 (by omega)
  have HEV := Aside0.mk (show ∃ k, thwartref04_Light.f k (RSS ls) = some t from Ev.rounds ht)
  have HLI := Aside0.mk hl
  have HC := Aside0.mk hC
  have HC0 := Aside0.mk hc0
  have HL := Aside0.mk hL
  have HN := Aside0.mk hnl
  have HRL := Aside0.mk (RSS_len ls)
  clear hC hc0 hL hnl ht hl
  obtain ⟨n, hn⟩ : ∃ n, (RSS ls).length = n := ⟨_, rfl⟩
  rw [hn]
  rw [hn] at HRL
  have HNN := Aside0.mk hn
  clear hn
  have hnI : (0 : Int) ≤ (n : Int) := by omega
  go_enter Tryz.func4, Tryz.ntmps4
  go_wp2_with fail
  refine (awake08.calls _ HL.out).mono ?_
  rintro e w1 ⟨rfl, b1⟩
  have B1 := Aside0.mk b1
  clear b1
  go_wp2_with fail
  refine (disk_New.calls 262144 _).mono ?_
  rintro e w2 (⟨hh, _⟩ | ⟨_, d, rfl, h2, b2⟩)
  · omega
  have D2 := Aside0.mk (show At8 w w2 (fun k => w1.heap.size ≤ k ∧ k < w2.heap.size) d (dkR 262144 (mAt (sgN (5 : Nat)) ls 0)) from ⟨h2.bound, fun k hk => Nat.le_trans B1.out.size hk.1, fun k hk => hk.2, B1.out.trans (b2.mono B1.out.size)⟩)
  clear h2 b2 B1
  go_wp2_with fail
  obtain ⟨q, hq⟩ := HEV.out
  have HQ := Aside0.mk hq
  have HCw := Aside0.mk (Kd.C_below HC.out D2.out.be)
  rw [HNN.out] at HCw
  have HC0n := HC0.out
  rw [HNN.out] at HC0n
  have HLC := Aside0.mk (thwartref04_Light.calls q A0 c0 (RSS ls) t w2 (by rw [HNN.out]; exact HCw.out) HC0.out HQ.out)
  rw [HNN.out] at HLC
  clear hq HC0n
  refine HLC.out.mono ?_
  rintro e w3 ⟨rfl, b3⟩
  have D3 := Aside0.mk (D2.out.below b3)
  clear b3 HLC HCw HQ HEV D2
  cases t with
  | false =>
    go_wp2_with fail
    go_ret
    exact ⟨rfl, D3.out.be⟩
  | true =>
    have HN20 := Aside0.mk (show ls.length ≤ 20 by have := HLI.out rfl; rw [RSS_len] at this; exact this)
    clear HLI
    go_wp2_with fail
    go_loopw [9] (fun v9 wr => ∃ (i : Nat) (T : Nat → Prop), i ≤ n ∧ v9 = .int .i64 i ∧ Aside0 (At8 w wr T d (dkR 262144 (mAt (sgN (5 : Nat)) ls i))) ∧ Aside0 (∀ l ∈ ls.take i, (frameS l).2 = 0)) (fun v9 _ => n - (intOf v9).toNat)
    case atStart => exact ⟨0, _, Nat.zero_le _, rfl, D3, ⟨fun l hl => by simp at hl⟩⟩
    case round =>
      obtain ⟨i, T, hi, rfl, HD, HOK⟩ := hrel
      have hn20 : n ≤ 20 := by have := HN20.out; have := HRL.out; omega
      by_cases hlt : i < n
      · have d1 : decide ((i : Int) < (n : Int)) = true := decide_eq_true (by omega)
        have i0 : 0 ≤ (i : Int) := by omega
        have i1 : (i : Int) < (n : Int) := by omega
        have hil : i < ls.length := by have := HRL.out; omega
        obtain ⟨ad, A5, c5, rfl, hcell, h5, hC5⟩ := rows_at (Kd.C_below HC.out HD.out.be) i (by rw [RSS_len]; exact hil)
        have hrow : (RSS ls)[i]'(by rw [RSS_len]; exact hil) = (ls[i]).map RS := by unfold RSS; rw [List.getElem_map]
        have HW := Aside0.mk (seg_Write.calls wr T d (dkR 262144 (mAt (sgN (5 : Nat)) ls i)) HD.out.at_ HD.out.hi (mAt_sm (by decide) HOK.out HN20.out) 5 (by decide) (HL.out.below HD.out.be) A5 c5 ls[i] _ hrow hC5 h5 (HD.out.laid HL.out))
        have HWA := Aside0.mk (write_at (n := 5) (by decide) hil HN20.out HOK.out)
        generalize ((RSS ls)[i]'(by rw [RSS_len]; exact hil)).length = n5 at hcell HW
        have HOS := Aside0.mk (ok_snoc hil HOK.out)
        generalize hlsi : ls[i] = li at HWA HW HOS
        clear hrow hC5 h5 hlsi
        go_wp2_with fail
        refine HW.out.mono ?_
        rintro e wx ⟨v, T', rfl, h', hT', _, f'⟩
        rcases HWA.out with ⟨hf0, hw⟩ | hw
        · have hw' : segWrite (dkR 262144 (mAt (sgN (5 : Nat)) ls i)) 5 li = _ := hw
          rw [hw'] at h' ⊢
          have DX := Aside0.mk (HD.out.next h' hT' f')
          have OX := Aside0.mk (HOS.out hf0)
          clear h' hT' f' hw hw' hf0 hcell HW HWA HOS hil
          go_wp2_with fail
          go_roundw
          case rel => exact ⟨i + 1, T', by omega, by go_num, DX, OX⟩
          case measure => simp [intOf]; omega
        · have hw' : segWrite (dkR 262144 (mAt (sgN (5 : Nat)) ls i)) 5 li = _ := hw
          rw [hw'] at h' ⊢
          have DX := Aside0.mk (HD.out.next h' hT' f')
          clear h' hT' f' hw hw' hcell HW HWA HOS hil
          go_wp2_with fail
          go_ret
          exact ⟨rfl, DX.out.be⟩
      · have d1 : decide ((i : Int) < (n : Int)) = false := decide_eq_false (by omega)
        have HIN := Aside0.mk (show i = n by omega)
        have HOA := Aside0.mk (show ∀ l ∈ ls, (frameS l).2 = 0 by have := HOK.out; rwa [List.take_of_length_le (by have := HRL.out; omega)] at this)
        have HSM := Aside0.mk (mAt_sm (k := sgN (5 : Nat)) (R := 262144) (by decide) HOK.out HN20.out)
        have HSE := Aside0.mk (seg_Seal.calls wr T d _ HD.out.at_ HD.out.hi HSM.out 5 (by decide) (HD.out.laid HL.out))
        clear HOK HSM
        by_cases h0 : n = 0
        · have hi0 : i = 0 := by omega
          subst hi0 h0
          have hm0 : mAt (sgN (5 : Nat)) ls 0 = [] := rfl
          rw [hm0] at HSE
          go_wp2_with fail
          refine HSE.out.mono ?_
          rintro e wx ⟨he, h', f'⟩
          have hsn := seal_none (n := 5) (by decide)
          have hsn' : segSeal (dkR 262144 []) 5 = _ := hsn
          rw [hsn'] at he h'
          have he' : e = .returned (.int .i64 5) := he
          subst he'
          have BX := Aside0.mk (frm_below HD.out.be HD.out.lo f')
          clear he h' f' hsn hsn' HSE
          go_wp2_with fail
          go_ret
          exact ⟨rfl, BX.out⟩
        · obtain ⟨g, hg, e1, e2, e3, e4, e5, e6⟩ := sealed (n := 5) (by decide) HN20.out (by have := HRL.out; omega) HOA.out
          have hil : i = ls.length := by have := HRL.out; omega
          subst hil
          have hfz := frames_le ls HOA.out
          have HS2 := Aside0.mk (show (dkR 262144 [(sgN (5 : Nat), ⟨B (framesS ls), 0⟩), (sgH (5 : Nat), g)]).Sm 200000 from sm_of (by decide) (by decide) fun p hp => by
            rcases List.mem_cons.1 hp with rfl | hp
            · have := HN20.out; simp only [B_size]; omega
            · rw [List.mem_singleton.1 hp]; simp only; omega)
          have HS3 := Aside0.mk (show (dkR 262144 [(sgN (5 : Nat), (⟨B (framesS ls), 0⟩ : DFile))]).Sm 200000 from sm_of (by decide) (by decide) fun p hp => by
            rw [List.mem_singleton.1 hp]
            have := HN20.out; simp only [B_size]; omega)
          have HEL := Aside0.mk (show (ofL 0 ls).length ≤ 1000000 by rw [ofL_length]; have := flat_le ls HOA.out; have := HN20.out; omega)
          have E1 := Aside0.mk e1
          have E2 := Aside0.mk e2
          have E3 := Aside0.mk e3
          have E4 := Aside0.mk e4
          have E5 := Aside0.mk e5
          have E6 := Aside0.mk e6
          clear e1 e2 e3 e4 e5 e6 hg hfz
          have hnb : ((n : Int) == 0) = false := beq_eq_false_iff_ne.2 (by omega)
          have HNL2 := Aside0.mk HIN.out
          clear HIN
          generalize dkR 262144 [(sgN (5 : Nat), ⟨B (framesS ls), 0⟩), (sgH (5 : Nat), g)] = st2 at E1 E2 E3 E4 HS2
          generalize dkR 262144 [(sgN (5 : Nat), (⟨B (framesS ls), 0⟩ : DFile))] = st3 at E4 E5 E6 HS3
          generalize ofL 0 ls = E at E2 E3 E5 E6 HEL
          go_wp2_with fail
          refine HSE.out.mono ?_
          rintro e wx ⟨he, h', f'⟩
          have e1' : segSeal (dkR 262144 (mAt (sgN (5 : Nat)) ls ls.length)) 5 = _ := E1.out
          rw [e1'] at he h'
          have he' : e = .returned (.int .i64 0) := he
          subst he'
          have DX := Aside0.mk (HD.out.next h' (fun k hk => hk) f')
          clear he h' f' e1' HSE HD E1
          cases gone with
          | false =>
            go_wp2_with fail
            refine (seg_Index.calls wx _ d st2 DX.out.at_ DX.out.hi HS2.out 5 (by decide) (HL.out.below DX.out.be)).mono ?_
            rintro e wa ⟨va, Ta, he, h', hT', hR, f'⟩
            have ex : segIndex st2 5 = (st2, E, 0) := E2.out
            rw [ex] at he h' hR
            obtain ⟨Aa, ca, rfl, hca, _⟩ := Kd.R_reads hR
            have he' : e = .returned (.tuple #[.slice Aa (E.map ES).length ca, .int .i64 0]) := he
            subst he'
            have DA := Aside0.mk (DX.out.next h' hT' f')
            have RA := Aside0.mk (Kd.R_bound hR)
            clear he h' hT' hR f' ex
            obtain ⟨en, hen⟩ : ∃ en, (E.map ES).length = en := ⟨_, rfl⟩
            have HEN := Aside0.mk hen
            rw [hen]
            rw [hen] at RA hca
            clear hen
            go_wp2_with fail
            refine (seg_Load.calls wa Ta d st2 DA.out.at_ DA.out.hi HS2.out 5 (by decide) (HL.out.below DA.out.be)).mono ?_
            rintro e wb ⟨vb, Tb, he, h', hT', hR, f'⟩
            have ex : segLoad st2 5 = (st2, E, 0) := E3.out
            rw [ex] at he h' hR
            obtain ⟨Ab, cb, rfl, hcb, hCb⟩ := Kd.R_reads hR
            have he' : e = .returned (.tuple #[.slice Ab (E.map ES).length cb, .int .i64 0]) := he
            subst he'
            have DB := Aside0.mk (DA.out.next h' hT' f')
            have RB := Aside0.mk (Kd.R_bound hR)
            have RA2 := Aside0.mk (Kd.R_step RA.out (fun k hk hlt => f'.block k hlt hk.1))
            clear he h' hT' hR f' ex hCb RA DA DX
            rw [HEN.out]
            rw [HEN.out] at RB hcb
            have HCA := Aside0.mk hca
            have HCB := Aside0.mk hcb
            clear hca hcb
            obtain ⟨q1, hq1⟩ := Ev.rounds (ev_to E (by have := HEL.out; omega))
            obtain ⟨q2, hq2⟩ := Ev.rounds (ev_Same5 E E (by have := HEL.out; omega))
            rw [decide_eq_true (show E = E from rfl)] at hq2
            have HQ1 := Aside0.mk hq1
            have HQ2 := Aside0.mk hq2
            clear hq1 hq2
            go_wp2_with fail
            have HC1 := Aside0.mk (thwartlaw08_to.calls q1 Aa ca (E.map ES) (E.map EF) wb (by rw [HEN.out]; exact C_of_R RA2.out) (by rw [HEN.out]; exact HCA.out) HQ1.out)
            rw [HEN.out] at HC1
            refine HC1.out.mono ?_
            rintro e wc ⟨vc, rfl, rc, bc⟩
            obtain ⟨Ac, cc, rfl, hcc, _⟩ := Kd.R_reads rc
            have RC := Aside0.mk rc
            have HCC := Aside0.mk hcc
            have DC := Aside0.mk (DB.out.below bc)
            have RB2 := Aside0.mk (Kd.R_below RB.out bc)
            obtain ⟨fn, hfn⟩ : ∃ fn, (E.map EF).length = fn := ⟨_, rfl⟩
            have HFN := Aside0.mk hfn
            rw [hfn]
            rw [hfn] at RC HCC
            clear rc hcc bc hfn HC1
            go_wp2_with fail
            have HC2 := Aside0.mk (thwartlaw08_to.calls q1 Ab cb (E.map ES) (E.map EF) wc (by rw [HEN.out]; exact C_of_R RB2.out) (by rw [HEN.out]; exact HCB.out) HQ1.out)
            rw [HEN.out] at HC2
            refine HC2.out.mono ?_
            rintro e wd ⟨vd, rfl, rd, bd⟩
            obtain ⟨Ad, cd, rfl, hcd, _⟩ := Kd.R_reads rd
            have RD := Aside0.mk rd
            have HCD := Aside0.mk hcd
            have DD2 := Aside0.mk (DC.out.below bd)
            have RC2 := Aside0.mk (Kd.R_below RC.out bd)
            rw [HFN.out]
            rw [HFN.out] at RD HCD
            clear rd hcd bd HC2
            go_wp2_with fail
            have HC3 := Aside0.mk (thwartref05_Same.calls q2 Ac cc (E.map EF) Ad cd (E.map EF) true wd (by rw [HFN.out]; exact C_of_R RC2.out) (by rw [HFN.out]; exact HCC.out) (by rw [HFN.out]; exact C_of_R RD.out) (by rw [HFN.out]; exact HCD.out) HQ2.out)
            rw [HFN.out] at HC3
            refine HC3.out.mono ?_
            rintro e we ⟨rfl, be⟩
            have DE := Aside0.mk (DD2.out.below be.below)
            clear be HC3
            go_wp2_with fail
            go_ret
            exact ⟨rfl, DE.out.be⟩
          | true =>
            go_wp2_with fail
            refine (seg_Hints.calls 5 (by decide) _ (HL.out.below DX.out.be)).mono ?_
            rintro e wy ⟨rfl, by_⟩
            have DY := Aside0.mk (DX.out.below by_)
            clear by_
            go_wp2_with fail
            refine (disk_Remove.calls wy _ d st2 DY.out.at_ (sgH 5) (sgH_size 5)).mono ?_
            rintro e wz ⟨he, h', f'⟩
            have e4' : st2.remove (sgH 5) = (st3, 0) := E4.out
            rw [e4'] at he h'
            have he' : e = .returned (.int .i64 0) := he
            subst he'
            have DZ := Aside0.mk (DY.out.next h'.bound (fun k hk => hk) f')
            clear he h' f' e4' DX DY
            go_wp2_with fail
            refine (seg_Index.calls wz _ d st3 DZ.out.at_ DZ.out.hi HS3.out 5 (by decide) (HL.out.below DZ.out.be)).mono ?_
            rintro e wa ⟨va, Ta, he, h', hT', hR, f'⟩
            have ex : segIndex st3 5 = (st3, E, 0) := E5.out
            rw [ex] at he h' hR
            obtain ⟨Aa, ca, rfl, hca, _⟩ := Kd.R_reads hR
            have he' : e = .returned (.tuple #[.slice Aa (E.map ES).length ca, .int .i64 0]) := he
            subst he'
            have DA := Aside0.mk (DZ.out.next h' hT' f')
            have RA := Aside0.mk (Kd.R_bound hR)
            clear he h' hT' hR f' ex
            obtain ⟨en, hen⟩ : ∃ en, (E.map ES).length = en := ⟨_, rfl⟩
            have HEN := Aside0.mk hen
            rw [hen]
            rw [hen] at RA hca
            clear hen
            go_wp2_with fail
            refine (seg_Load.calls wa Ta d st3 DA.out.at_ DA.out.hi HS3.out 5 (by decide) (HL.out.below DA.out.be)).mono ?_
            rintro e wb ⟨vb, Tb, he, h', hT', hR, f'⟩
            have ex : segLoad st3 5 = (st3, E, 0) := E6.out
            rw [ex] at he h' hR
            obtain ⟨Ab, cb, rfl, hcb, hCb⟩ := Kd.R_reads hR
            have he' : e = .returned (.tuple #[.slice Ab (E.map ES).length cb, .int .i64 0]) := he
            subst he'
            have DB := Aside0.mk (DA.out.next h' hT' f')
            have RB := Aside0.mk (Kd.R_bound hR)
            have RA2 := Aside0.mk (Kd.R_step RA.out (fun k hk hlt => f'.block k hlt hk.1))
            clear he h' hT' hR f' ex hCb RA DA DZ
            rw [HEN.out]
            rw [HEN.out] at RB hcb
            have HCA := Aside0.mk hca
            have HCB := Aside0.mk hcb
            clear hca hcb
            obtain ⟨q1, hq1⟩ := Ev.rounds (ev_to E (by have := HEL.out; omega))
            obtain ⟨q2, hq2⟩ := Ev.rounds (ev_Same5 E E (by have := HEL.out; omega))
            rw [decide_eq_true (show E = E from rfl)] at hq2
            have HQ1 := Aside0.mk hq1
            have HQ2 := Aside0.mk hq2
            clear hq1 hq2
            go_wp2_with fail
            have HC1 := Aside0.mk (thwartlaw08_to.calls q1 Aa ca (E.map ES) (E.map EF) wb (by rw [HEN.out]; exact C_of_R RA2.out) (by rw [HEN.out]; exact HCA.out) HQ1.out)
            rw [HEN.out] at HC1
            refine HC1.out.mono ?_
            rintro e wc ⟨vc, rfl, rc, bc⟩
            obtain ⟨Ac, cc, rfl, hcc, _⟩ := Kd.R_reads rc
            have RC := Aside0.mk rc
            have HCC := Aside0.mk hcc
            have DC := Aside0.mk (DB.out.below bc)
            have RB2 := Aside0.mk (Kd.R_below RB.out bc)
            obtain ⟨fn, hfn⟩ : ∃ fn, (E.map EF).length = fn := ⟨_, rfl⟩
            have HFN := Aside0.mk hfn
            rw [hfn]
            rw [hfn] at RC HCC
            clear rc hcc bc hfn HC1
            go_wp2_with fail
            have HC2 := Aside0.mk (thwartlaw08_to.calls q1 Ab cb (E.map ES) (E.map EF) wc (by rw [HEN.out]; exact C_of_R RB2.out) (by rw [HEN.out]; exact HCB.out) HQ1.out)
            rw [HEN.out] at HC2
            refine HC2.out.mono ?_
            rintro e wd ⟨vd, rfl, rd, bd⟩
            obtain ⟨Ad, cd, rfl, hcd, _⟩ := Kd.R_reads rd
            have RD := Aside0.mk rd
            have HCD := Aside0.mk hcd
            have DD2 := Aside0.mk (DC.out.below bd)
            have RC2 := Aside0.mk (Kd.R_below RC.out bd)
            rw [HFN.out]
            rw [HFN.out] at RD HCD
            clear rd hcd bd HC2
            go_wp2_with fail
            have HC3 := Aside0.mk (thwartref05_Same.calls q2 Ac cc (E.map EF) Ad cd (E.map EF) true wd (by rw [HFN.out]; exact C_of_R RC2.out) (by rw [HFN.out]; exact HCC.out) (by rw [HFN.out]; exact C_of_R RD.out) (by rw [HFN.out]; exact HCD.out) HQ2.out)
            rw [HFN.out] at HC3
            refine HC3.out.mono ?_
            rintro e we ⟨rfl, be⟩
            have DE := Aside0.mk (DD2.out.below be.below)
            clear be HC3
            go_wp2_with fail
            go_ret
            exact ⟨rfl, DE.out.be⟩
theorem hints_wide (A0 : Option Addr) (n0 c0 : Nat) (l0 : List (List SR)) (a1 : Bool) (w : World) (K0 : (Kd.slice 36 kL).K w l0 [.slice A0 n0 c0]) (y0 : n0 * 24 ≤ 140737488351232)
    (G0 : l0.length ≤ 9223372036854775807 ∧ ∀ l ∈ l0, l.length ≤ 9223372036854775807 ∧ ∀ e ∈ l, (Lit.int .u64 e.f0).wf = true ∧ e.f1.size ≤ 9223372036854775807 ∧ e.f2.size ≤ 9223372036854775807 ∧ True) (hL : LaidW w) :
    Calls Tryz.prog 4 #[.slice A0 n0 c0, .bool a1] w fun e w' => e = .returned (.bool true) ∧ Below w.heap.size w w' := by
  obtain ⟨A0_, c0_, e0, hc0, hr0⟩ := K0
  simp only [List.cons.injEq, Value.slice.injEq, and_true] at e0
  obtain ⟨rfl, rfl, rfl⟩ := e0
  obtain ⟨rs, rfl⟩ := wf_lists l0 G0.2
  exact hints_walk _ _ rs a1 w hr0 hc0 (by rw [RSS_len] at y0; omega) hL
end Go.Proofs.YthndpknocofioaaGreatDoor.Thw
