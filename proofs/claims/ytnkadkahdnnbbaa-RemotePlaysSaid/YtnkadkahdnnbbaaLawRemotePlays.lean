/- Proved: RemotePlays, the given statement, whole: any calls, one by one, of any fates. No condition but the row's own (what can be read, of the sizes that a reading may have). Written by a program over the kit's print. -/
import Derived.Test.YtnkadkahdnnbbaaRows
import Derived.Test.YtnkadkahdnnbbaaPrint7
import Derived.Test.YtnkadkahdnnbbaaRowW
import Derived.Test.YtnkadkahdnnbbaaPureRemotePlays
import Derived.WalkKit
import Derived.ProofKit
import Derived.OpenShut
import Derived.ShutString
import Derived.ChangeOld
import Derived.Below
import Derived.SizedLaws
namespace Go.Proofs.Ytnkadkahdnnbbaa.remotePlays
open Go.ChangeShapes Go.WideShapes Go.ChangeAt Go.RowKit Go.Proofs.Ytnkadkahdnnbbaa.Thw Go.Proofs.Ytnkadkahdnnbbaa.Print Go.Proofs.YtnkadkahdnnbbaaW.PrintWords
open Go.ChangeMaps (open_string shut_string)
set_option linter.unusedVariables false
theorem own : ownKnob Try.prog.godebug = none := by kernel_rfl
theorem laidOut : laidOutB Try.prog = true := by kernel_rfl
set_option maxRecDepth 100000 in
theorem lifted (os : Os) (started : os.Started) (H : Type) (enc : TypeId × Value → H) :
    ReturnsInHanded {} Try.checked os 7 .any (Rows.remotePlaysSpec.pre6 enc Try.prog Try.f7 Rows.remotePlaysRow.domain false) (Rows.remotePlaysSpec.post enc Try.prog Try.f7 false true false false) := by
  refine returnsInHanded_of_change_sized (C := Try.checked) own started (by kernel_rfl) Try.func7
    (ChangeSpec.witness6 (enc := enc) (C := Try.checked) false ⟨#[], #[.slice none 0 0], []⟩ 8 (by kernel_rfl) (by kernel_rfl) (by kernel_rfl) (by kernel_rfl)) ?_
  intro W base args ds gs before hval0 hW hcnd hsz0 _
  have hsz : (DataW.weightsEach Try.prog (Try.f7.params.toList ++ Rows.remotePlaysSpec.plain.varTypes Try.prog) (ds ++ gs)).all (· ≤ reachBytes) = true := hsz0
  have hval : ∀ (j : Nat) t v, Try.f7.params[j]? = some t → args[j]? = some v → Value.okWide Try.prog W .any base t v := hval0
  have hW' := hW
  obtain ⟨p, q, hA0, hV, rfl, hfz, hnd⟩ := hW
  have hA : DataW.TrodAll enc Try.prog W 0 (fun _ => true) true Try.f7.params.toList args.toList ds p := hA0
  rw [Try.params7] at hA hval hsz
  obtain ⟨v0, vs0, d0, ds0, p0, q0, hargs, rfl, rfl, h0, r0⟩ := trodAll_cons hA
  obtain ⟨rfl, rfl, rfl⟩ := trodAll_nil r0
  obtain rfl : args = #[v0] := by cases args; simp_all
  obtain ⟨rfl, rfl⟩ := trodVars_none hV
  have k0 := h0
  have lt0 : ∀ x ∈ p0, x.block < W.heap.size := by obtain ⟨m, hm⟩ := k0; exact DataW.trod_lt m _ _ _ hm
  obtain ⟨A0, n0, c0, rfl⟩ := okWide_slice Try.underlying57 (hval 0 57 v0 rfl rfl)
  have y0 : n0 * 64 ≤ 140737488351232 := sized_row hsz (j := 0) (t := 57) rfl rfl Try.underlying57 (by kernel_rfl) h0
  obtain ⟨l0, K0, G0⟩ := RdsW.trod (RdsW.slice Try.underlying57 64 (by kernel_rfl) (RdsW.struct (f := fun x : S63 => (x.f0, x.f1, x.f2, x.f3)) (g := fun y => (⟨y.1, y.2.1, y.2.2.1, y.2.2.2⟩ : S63)) Try.underlying63 (RFW.pair (RdsW.int Try.underlying3) (by kernel_rfl) (RFW.pair (RdsW.string Try.underlying9) (by kernel_rfl) (RFW.pair (RdsW.string Try.underlying9) (by kernel_rfl) (RFW.one (RdsW.slice Try.underlying23 8 (by kernel_rfl) (RdsW.int Try.underlying3) (by kernel_rfl)) (by kernel_rfl)) rfl) rfl) rfl) (by kernel_rfl) (fun _ => rfl)) (by kernel_rfl)) h0 hsz 0 rfl rfl
  clear hA0 hval0 hsz0 hsz
  refine (Print.thwartlaw07_RemotePlays.walk Pure.RemotePlays A0 n0 c0 l0 W K0 y0 G0).mono fun e W' ⟨he, bel⟩ => ?_
  subst he
  exact ⟨_, rfl, _, _, _, [], _, [], hW', trodAll_mk1 (shut_bool Try.underlying4 _), (trodAll_cons_mk (Below.trod laidOut (by kernel_rfl) (of_decide_eq_true (by kernel_rfl)) k0 bel lt0) trodAll_mk0), rfl, bel.frame _, fun h => by cases h⟩
theorem over : Rows.remotePlaysRow.holds Try.pinned (OpenSpec.ofChange Rows.remotePlaysSpec) :=
  OpenClaim.holds_of_wide 7 Try.f7 rfl rfl rfl rfl rfl rfl rfl ⟨rfl, rfl, rfl, rfl, rfl⟩ rfl rfl rfl rfl rfl (by kernel_rfl) Try.func7 (by kernel_rfl)
    (of_decide_eq_true (by kernel_rfl)) (by unfold Func.isWrapper; first | (rw [if_pos (by decide +kernel)]; kernel_rfl) | (rw [if_neg (by decide +kernel)]; exact ⟨rfl, rfl⟩))
    (fun os started H enc _ => lifted os started H enc)
theorem proved : Rows.RemotePlaysSaid := over
#print axioms proved
end Go.Proofs.Ytnkadkahdnnbbaa.remotePlays
namespace Go.Proofs.Ytnkadkahdnnbbaa
/-- The row, under a short name, for the claim. -/
theorem remotePlays_holds : Rows.RemotePlaysSaid := remotePlays.proved
end Go.Proofs.Ytnkadkahdnnbbaa
