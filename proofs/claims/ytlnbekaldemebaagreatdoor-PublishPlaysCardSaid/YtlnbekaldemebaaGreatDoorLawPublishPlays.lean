/- Proved: PublishPlays, the given statement, whole, as a tied card: any calls, one by one, of any fates, and of objects that are spoilt. No condition but the row's own (what can be read, of the sizes that a reading may have; the listed variables of Go's library as their text lays them, tied by the given texts). -/
import Derived.Test.YtlnbekaldemebaaGreatDoorRows
import Derived.Test.YtlnbekaldemebaaGreatDoorRowW
import Derived.WalkKit
import Derived.ProofKit
import Derived.OpenShut
import Derived.ShutString
import Derived.ChangeOld
import Derived.Below
import Derived.SizedLaws
import Derived.Test.YtlnbekaldemebaaGreatDoorMY3
import Derived.Test.YtlnbekaldemebaaGreatDoorMW3
import Derived.Test.YtlnbekaldemebaaGreatDoorTie
import Derived.Test.YtlnbekaldemebaaGreatDoorCards
import Derived.SevenTiedAt
namespace Go.Proofs.YtlnbekaldemebaaGreatDoor.publishPlays
open Go.ChangeShapes Go.WideShapes Go.ChangeAt Go.RowKit Go.Proofs.YtlnbekaldemebaaGreatDoor.Thw Go.Proofs.YtlnbekaldemebaaGreatDoor.Print Go.Proofs.YtlnbekaldemebaaGreatDoorW.PrintWords
open Go.ChangeMaps (open_string shut_string)
set_option linter.unusedVariables false
theorem own : ownKnob Tryz.prog.godebug = none := by kernel_rfl
theorem laidOut : laidOutB Tryz.prog = true := by kernel_rfl
set_option maxRecDepth 100000 in
theorem lifted (os : Os) (started : os.Started) (H : Type) (enc : TypeId × Value → H) :
    ReturnsInHanded {} Tryz.checked os 6 .any (fun w args => (Rows.publishPlaysSpec.pre enc Tryz.prog Tryz.f6 [] false w args ∧ laidMetH Tryz.prog Rows.publishPlaysRow.laid w) ∧ sizedMet enc Tryz.prog Tryz.f6 (OpenSpec.ofChange Rows.publishPlaysSpec) false w args) (Rows.publishPlaysSpec.post enc Tryz.prog Tryz.f6 false true false false) := by
  refine returnsInHanded_of_change_and (C := Tryz.checked) (X := fun w _ => laidMetH Tryz.prog Rows.publishPlaysRow.laid w) (fun _ _ _ hh h => h.of_heap hh) own started (by kernel_rfl) Tryz.func6
    (ChangeSpec.witness_shaped (enc := enc) (C := Tryz.checked) (os := os) (X := fun w _ => laidMetH Tryz.prog Rows.publishPlaysRow.laid w) false (World.doorLaid Tryz.prog 4000 os) #[.slice none 0 0] 8 rfl (World.shaped_of_RefB (by kernel_rfl) (by kernel_rfl)) (by kernel_rfl) (by kernel_rfl) (by kernel_rfl) (door_met os _)) ?_
  intro W base args ds gs before hval0 hW hcnd hsz0 hL _
  have hsz : (DataW.weightsEach Tryz.prog (Tryz.f6.params.toList ++ Rows.publishPlaysSpec.plain.varTypes Tryz.prog) (ds ++ gs)).all (· ≤ reachBytes) = true := hsz0
  have hval : ∀ (j : Nat) t v, Tryz.f6.params[j]? = some t → args[j]? = some v → Value.okWide Tryz.prog W .any base t v := hval0
  have hW' := hW
  obtain ⟨p, q, hA0, hV, rfl, hfz, hnd⟩ := hW
  have hA : DataW.TrodAll enc Tryz.prog W 0 (fun _ => true) true Tryz.f6.params.toList args.toList ds p := hA0
  rw [Tryz.params6] at hA hval hsz
  obtain ⟨v0, vs0, d0, ds0, p0, q0, hargs, rfl, rfl, h0, r0⟩ := trodAll_cons hA
  obtain ⟨rfl, rfl, rfl⟩ := trodAll_nil r0
  obtain rfl : args = #[v0] := by cases args; simp_all
  obtain ⟨rfl, rfl⟩ := trodVars_none hV
  have k0 := h0
  have lt0 : ∀ x ∈ p0, x.block < W.heap.size := by obtain ⟨m, hm⟩ := k0; exact DataW.trod_lt m _ _ _ hm
  obtain ⟨A0, n0, c0, rfl⟩ := okWide_slice Tryz.underlying53 (hval 0 53 v0 rfl rfl)
  have y0 : n0 * 96 ≤ 140737488351232 := sized_row hsz (j := 0) (t := 53) rfl rfl Tryz.underlying53 (by kernel_rfl) h0
  obtain ⟨l0, K0, G0⟩ := RdsW.trod (RdsW.slice Tryz.underlying53 96 (by kernel_rfl) (RdsW.struct (f := fun x : S59 => (x.f0, x.f1, x.f2, x.f3, x.f4, x.f5)) (g := fun y => (⟨y.1, y.2.1, y.2.2.1, y.2.2.2.1, y.2.2.2.2.1, y.2.2.2.2.2⟩ : S59)) Tryz.underlying59 (RFW.pair (RdsW.int Tryz.underlying3) (by kernel_rfl) (RFW.pair (RdsW.int Tryz.underlying3) (by kernel_rfl) (RFW.pair (RdsW.string Tryz.underlying9) (by kernel_rfl) (RFW.pair (RdsW.string Tryz.underlying9) (by kernel_rfl) (RFW.pair (RdsW.slice Tryz.underlying23 24 (by kernel_rfl) (RdsW.struct (f := fun x : S45 => (x.f0, x.f1, x.f2)) (g := fun y => (⟨y.1, y.2.1, y.2.2⟩ : S45)) Tryz.underlying45 (RFW.pair (RdsW.int Tryz.underlying3) (by kernel_rfl) (RFW.pair (RdsW.int Tryz.underlying3) (by kernel_rfl) (RFW.one (RdsW.int Tryz.underlying43) (by kernel_rfl)) rfl) rfl) (by kernel_rfl) (fun _ => rfl)) (by kernel_rfl)) (by kernel_rfl) (RFW.one (RdsW.slice Tryz.underlying35 8 (by kernel_rfl) (RdsW.int Tryz.underlying3) (by kernel_rfl)) (by kernel_rfl)) rfl) rfl) rfl) rfl) rfl) (by kernel_rfl) (fun _ => rfl)) (by kernel_rfl)) h0 hsz 0 rfl rfl
  clear hA0 hval0 hsz0 hsz
  refine (Thw.plays13_wide A0 n0 c0 l0 W K0 G0 (of_laid hL)).mono fun e W' ⟨he, bel⟩ => ?_
  subst he
  exact ⟨_, rfl, _, _, _, [], _, [], hW', trodAll_mk1 (shut_bool Tryz.underlying4 _), (trodAll_cons_mk (Below.trod laidOut (by kernel_rfl) (of_decide_eq_true (by kernel_rfl)) k0 bel lt0) trodAll_mk0), rfl, bel.frame _, fun h => by cases h⟩
theorem over : Rows.publishPlaysRow.holds Tryz.pinned (OpenSpec.ofChange Rows.publishPlaysSpec) :=
  OpenClaim.holds_of_wide 6 Tryz.f6 rfl rfl rfl rfl rfl rfl rfl ⟨rfl, rfl, rfl, rfl, rfl⟩ rfl rfl rfl rfl rfl (by kernel_rfl) Tryz.func6 (by kernel_rfl)
    (of_decide_eq_true (by kernel_rfl)) (by unfold Func.isWrapper; first | (rw [if_pos (by decide +kernel)]; kernel_rfl) | (rw [if_neg (by decide +kernel)]; exact ⟨rfl, rfl⟩))
    (fun os started H enc _ => lifted os started H enc)
theorem stands (t : TypeId) (h : t ∈ Tryz.f6.params.toList) : Tryz.prog.wantsStandIn t = false := by
  have h1 : (Tryz.f6.params.toList.all fun t => !Tryz.prog.wantsStandIn t) = true := by kernel_rfl
  have h2 := List.all_eq_true.1 h1 t h
  simpa using h2
theorem proved : Rows.PublishPlaysCardSaid :=
  Claim7.holds_tied_plain_at .later [] Rows.publishPlaysCard.laidKinds true Rows.publishPlaysCard.stood.harness true
    over (fun _ h => by cases h) (by kernel_rfl) (fun _ h => by cases h) publishPlays_row_tie rfl ⟨rfl, rfl⟩ (by kernel_rfl) rfl
    (fun f fn hf hfn => by
      obtain rfl : f = 6 := Option.some.inj ((show Tryz.prog.funcNamed Rows.publishPlaysRow.func = some 6 by kernel_rfl).symm.trans hf) |>.symm
      obtain rfl : fn = Tryz.f6 := (Option.some.inj (Tryz.func6.symm.trans hfn)).symm
      exact ⟨by kernel_rfl, fun j t ht => stands t (by rw [← Array.getElem?_toList] at ht; exact List.mem_of_getElem? ht)⟩)
    (by kernel_rfl)
#print axioms proved
end Go.Proofs.YtlnbekaldemebaaGreatDoor.publishPlays
namespace Go.Proofs.YtlnbekaldemebaaGreatDoor
/-- The card, under a short name, for the claim. -/
theorem publishPlays_holds : Rows.PublishPlaysCardSaid := publishPlays.proved
end Go.Proofs.YtlnbekaldemebaaGreatDoor
