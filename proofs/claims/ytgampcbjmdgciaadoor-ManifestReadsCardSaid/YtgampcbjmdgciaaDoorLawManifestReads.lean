/- Proved: ManifestReads, the given statement, whole, as a tied card: any manifest's bytes, and the manifest of any bytes. No condition but the row's own (what can be read, of the sizes that a reading may have; the listed variables of Go's library as their text lays them, tied by the given texts). -/
import Derived.Test.YtgampcbjmdgciaaDoorRows
import Derived.Test.YtgampcbjmdgciaaDoorRow
import Derived.WalkKit
import Derived.ProofKit
import Derived.OpenShut
import Derived.ShutString
import Derived.ChangeOld
import Derived.Below
import Derived.SizedLaws
import Derived.Test.YtgampcbjmdgciaaDoorEv12r
import Derived.Test.YtgampcbjmdgciaaDoorEv12W
import Derived.Test.YtgampcbjmdgciaaDoorTie
import Derived.Test.YtgampcbjmdgciaaDoorCards
import Derived.SevenTiedAt
namespace Go.Proofs.YtgampcbjmdgciaaDoor.manifestReads
open Go.ChangeShapes Go.WideShapes Go.ChangeAt Go.RowKit Go.Proofs.YtgampcbjmdgciaaDoor.Thw Go.Proofs.YtgampcbjmdgciaaDoor.Print Go.Proofs.YtgampcbjmdgciaaDoorW.PrintWords
open Go.ChangeMaps (open_string shut_string)
set_option linter.unusedVariables false
theorem own : ownKnob Tryd.prog.godebug = none := by kernel_rfl
theorem laidOut : laidOutB Tryd.prog = true := by kernel_rfl
set_option maxRecDepth 100000 in
theorem lifted (os : Os) (started : os.Started) (H : Type) (enc : TypeId × Value → H) :
    ReturnsInHanded {} Tryd.checked os 3 .any (fun w args => (Rows.manifestReadsSpec.pre enc Tryd.prog Tryd.f3 [] false w args ∧ laidMetH Tryd.prog Rows.manifestReadsRow.laid w) ∧ sizedMet enc Tryd.prog Tryd.f3 (OpenSpec.ofChange Rows.manifestReadsSpec) false w args) (Rows.manifestReadsSpec.post enc Tryd.prog Tryd.f3 false true false false) := by
  refine returnsInHanded_of_change_and (C := Tryd.checked) (X := fun w _ => laidMetH Tryd.prog Rows.manifestReadsRow.laid w) (fun _ _ _ hh h => h.of_heap hh) own started (by kernel_rfl) Tryd.func3
    (ChangeSpec.witness_shaped (enc := enc) (C := Tryd.checked) (os := os) (X := fun w _ => laidMetH Tryd.prog Rows.manifestReadsRow.laid w) false (World.doorLaid Tryd.prog 4000 os) #[.agg #[.int .i64 0, .slice none 0 0], .string ByteArray.empty] 8 rfl (World.shaped_of_RefB (by kernel_rfl) (by kernel_rfl)) (by kernel_rfl) (by kernel_rfl) (by kernel_rfl) (door_met os _)) ?_
  intro W base args ds gs before hval0 hW hcnd hsz0 hL _
  have hsz : (DataW.weightsEach Tryd.prog (Tryd.f3.params.toList ++ Rows.manifestReadsSpec.plain.varTypes Tryd.prog) (ds ++ gs)).all (· ≤ reachBytes) = true := hsz0
  have hval : ∀ (j : Nat) t v, Tryd.f3.params[j]? = some t → args[j]? = some v → Value.okWide Tryd.prog W .any base t v := hval0
  have hW' := hW
  obtain ⟨p, q, hA0, hV, rfl, hfz, hnd⟩ := hW
  have hA : DataW.TrodAll enc Tryd.prog W 0 (fun _ => true) true Tryd.f3.params.toList args.toList ds p := hA0
  rw [Tryd.params3] at hA hval hsz
  obtain ⟨v0, vs0, d0, ds0, p0, q0, hargs, rfl, rfl, h0, r0⟩ := trodAll_cons hA
  obtain ⟨v1, vs1, d1, ds1, p1, q1, rfl, rfl, rfl, h1, r1⟩ := trodAll_cons r0
  obtain ⟨rfl, rfl, rfl⟩ := trodAll_nil r1
  obtain rfl : args = #[v0, v1] := by cases args; simp_all
  obtain ⟨rfl, rfl⟩ := trodVars_none hV
  have k0 := h0
  have lt0 : ∀ x ∈ p0, x.block < W.heap.size := by obtain ⟨m, hm⟩ := k0; exact DataW.trod_lt m _ _ _ hm
  obtain ⟨cs0, rfl, _⟩ := okWide_struct Tryd.underlying24 (hval 0 24 v0 rfl rfl)
  obtain ⟨l0, K0, G0⟩ := Rds.trod (Rds.struct (f := fun x : S24 => (x.f0, x.f1)) (g := fun y => (⟨y.1, y.2⟩ : S24)) Tryd.underlying24 (RF.pair (Rds.int Tryd.underlying3) (by kernel_rfl) (RF.one (Rds.slice Tryd.underlying22 (Rds.struct (f := fun x : S46 => (x.f0, x.f1, x.f2)) (g := fun y => (⟨y.1, y.2.1, y.2.2⟩ : S46)) Tryd.underlying46 (RF.pair (Rds.int Tryd.underlying3) (by kernel_rfl) (RF.pair (Rds.int Tryd.underlying3) (by kernel_rfl) (RF.one (Rds.int Tryd.underlying44) (by kernel_rfl)) rfl) rfl) (by kernel_rfl) (fun _ => rfl)) (by kernel_rfl)) (by kernel_rfl)) rfl) (by kernel_rfl) (fun _ => rfl)) h0
  obtain ⟨a1, rfl, rfl, rfl, y1⟩ := open_string Tryd.underlying9 (hval 1 9 v1 rfl rfl) h1
  have w1 : a1.size ≤ 140737488351232 := by
    have z := sized_string hsz (j := 1) (t := 9) rfl rfl
    rw [Array.length_toList] at z
    exact z
  clear hA0 hval0 hsz0 hsz
  refine (Thw.reads_wide l0 cs0 a1 W K0 G0 (of_laid hL)).mono fun e W' ⟨he, bel⟩ => ?_
  subst he
  exact ⟨_, rfl, _, _, _, [], _, [], hW', trodAll_mk1 (shut_bool Tryd.underlying4 _), (trodAll_cons_mk (Below.trod laidOut (by kernel_rfl) (of_decide_eq_true (by kernel_rfl)) k0 bel lt0) (trodAll_cons_mk (shut_string Tryd.underlying9 y1) trodAll_mk0)), rfl, bel.frame _, fun h => by cases h⟩
theorem over : Rows.manifestReadsRow.holds Tryd.pinned (OpenSpec.ofChange Rows.manifestReadsSpec) :=
  OpenClaim.holds_of_wide 3 Tryd.f3 rfl rfl rfl rfl rfl rfl rfl ⟨rfl, rfl, rfl, rfl, rfl⟩ rfl rfl rfl rfl rfl (by kernel_rfl) Tryd.func3 (by kernel_rfl)
    (of_decide_eq_true (by kernel_rfl)) (by unfold Func.isWrapper; first | (rw [if_pos (by decide +kernel)]; kernel_rfl) | (rw [if_neg (by decide +kernel)]; exact ⟨rfl, rfl⟩))
    (fun os started H enc _ => lifted os started H enc)
theorem stands (t : TypeId) (h : t ∈ Tryd.f3.params.toList) : Tryd.prog.wantsStandIn t = false := by
  have h1 : (Tryd.f3.params.toList.all fun t => !Tryd.prog.wantsStandIn t) = true := by kernel_rfl
  have h2 := List.all_eq_true.1 h1 t h
  simpa using h2
theorem proved : Rows.ManifestReadsCardSaid :=
  Claim7.holds_tied_plain_at .later [] Rows.manifestReadsCard.laidKinds true Rows.manifestReadsCard.stood.harness true
    over (fun _ h => by cases h) (by kernel_rfl) (fun _ h => by cases h) manifestReads_row_tie rfl ⟨rfl, rfl⟩ (by kernel_rfl) rfl
    (fun f fn hf hfn => by
      obtain rfl : f = 3 := Option.some.inj ((show Tryd.prog.funcNamed Rows.manifestReadsRow.func = some 3 by kernel_rfl).symm.trans hf) |>.symm
      obtain rfl : fn = Tryd.f3 := (Option.some.inj (Tryd.func3.symm.trans hfn)).symm
      exact ⟨by kernel_rfl, fun j t ht => stands t (by rw [← Array.getElem?_toList] at ht; exact List.mem_of_getElem? ht)⟩)
    (by kernel_rfl)
#print axioms proved
end Go.Proofs.YtgampcbjmdgciaaDoor.manifestReads
namespace Go.Proofs.YtgampcbjmdgciaaDoor
/-- The card, under a short name, for the claim. -/
theorem manifestReads_holds : Rows.ManifestReadsCardSaid := manifestReads.proved
end Go.Proofs.YtgampcbjmdgciaaDoor
