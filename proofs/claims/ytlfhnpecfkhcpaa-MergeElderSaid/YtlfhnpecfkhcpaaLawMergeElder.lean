/- Proved: MergeElder, the given statement, whole: the stage's theorem: with what is gone kept, what is merged comes to the same in front of elder ones. No condition but the row's own (what can be read, of the sizes that a reading may have). Written by a program over the kit's print. -/
import Derived.Test.YtlfhnpecfkhcpaaRows
import Derived.Test.YtlfhnpecfkhcpaaPrint4
import Derived.Test.YtlfhnpecfkhcpaaRow
import Derived.Test.YtlfhnpecfkhcpaaPureMergeElder
import Derived.WalkKit
import Derived.ProofKit
import Derived.OpenShut
import Derived.ShutString
import Derived.ChangeOld
import Derived.Below
import Derived.SizedLaws
namespace Go.Proofs.Ytlfhnpecfkhcpaa.mergeElder
open Go.ChangeShapes Go.WideShapes Go.ChangeAt Go.RowKit Go.Proofs.Ytlfhnpecfkhcpaa.Thw Go.Proofs.Ytlfhnpecfkhcpaa.Print Go.Proofs.YtlfhnpecfkhcpaaW.PrintWords
open Go.ChangeMaps (open_string shut_string)
set_option linter.unusedVariables false
theorem own : ownKnob Try.prog.godebug = none := by kernel_rfl
theorem laidOut : laidOutB Try.prog = true := by kernel_rfl
set_option maxRecDepth 100000 in
theorem lifted (os : Os) (started : os.Started) (H : Type) (enc : TypeId × Value → H) :
    ReturnsInHanded {} Try.checked os 6 .any (Rows.mergeElderSpec.pre6 enc Try.prog Try.f6 Rows.mergeElderRow.domain false) (Rows.mergeElderSpec.post enc Try.prog Try.f6 false true false false) := by
  refine returnsInHanded_of_change_sized (C := Try.checked) own started (by kernel_rfl) Try.func6
    (ChangeSpec.witness6 (enc := enc) (C := Try.checked) false ⟨#[], #[.slice none 0 0, .slice none 0 0], []⟩ 8 (by kernel_rfl) (by kernel_rfl) (by kernel_rfl) (by kernel_rfl)) ?_
  intro W base args ds gs before hval0 hW hcnd hsz0 _
  have hsz : (DataW.weightsEach Try.prog (Try.f6.params.toList ++ Rows.mergeElderSpec.plain.varTypes Try.prog) (ds ++ gs)).all (· ≤ reachBytes) = true := hsz0
  have hval : ∀ (j : Nat) t v, Try.f6.params[j]? = some t → args[j]? = some v → Value.okWide Try.prog W .any base t v := hval0
  have hW' := hW
  obtain ⟨p, q, hA0, hV, rfl, hfz, hnd⟩ := hW
  have hA : DataW.TrodAll enc Try.prog W 0 (fun _ => true) true Try.f6.params.toList args.toList ds p := hA0
  rw [Try.params6] at hA hval hsz
  obtain ⟨v0, vs0, d0, ds0, p0, q0, hargs, rfl, rfl, h0, r0⟩ := trodAll_cons hA
  obtain ⟨v1, vs1, d1, ds1, p1, q1, rfl, rfl, rfl, h1, r1⟩ := trodAll_cons r0
  obtain ⟨rfl, rfl, rfl⟩ := trodAll_nil r1
  obtain rfl : args = #[v0, v1] := by cases args; simp_all
  obtain ⟨rfl, rfl⟩ := trodVars_none hV
  have k0 := h0
  have lt0 : ∀ x ∈ p0, x.block < W.heap.size := by obtain ⟨m, hm⟩ := k0; exact DataW.trod_lt m _ _ _ hm
  obtain ⟨A0, n0, c0, rfl⟩ := okWide_slice Try.underlying24 (hval 0 24 v0 rfl rfl)
  have y0 : n0 * 24 ≤ 140737488351232 := sized_row hsz (j := 0) (t := 24) rfl rfl Try.underlying24 (by kernel_rfl) h0
  obtain ⟨l0, K0, G0⟩ := Rds.trod (Rds.slice Try.underlying24 (Rds.slice Try.underlying22 (Rds.struct (f := fun x : S36 => (x.f0, x.f1, x.f2, x.f3)) (g := fun y => (⟨y.1, y.2.1, y.2.2.1, y.2.2.2⟩ : S36)) Try.underlying36 (RF.pair (Rds.int Try.underlying34) (by kernel_rfl) (RF.pair (Rds.string Try.underlying9) (by kernel_rfl) (RF.pair (Rds.string Try.underlying9) (by kernel_rfl) (RF.one (Rds.bool Try.underlying4) (by kernel_rfl)) rfl) rfl) rfl) (by kernel_rfl) (fun _ => rfl)) (by kernel_rfl)) (by kernel_rfl)) h0
  have k1 := h1
  have lt1 : ∀ x ∈ p1, x.block < W.heap.size := by obtain ⟨m, hm⟩ := k1; exact DataW.trod_lt m _ _ _ hm
  obtain ⟨A1, n1, c1, rfl⟩ := okWide_slice Try.underlying24 (hval 1 24 v1 rfl rfl)
  have y1 : n1 * 24 ≤ 140737488351232 := sized_row hsz (j := 1) (t := 24) rfl rfl Try.underlying24 (by kernel_rfl) h1
  obtain ⟨l1, K1, G1⟩ := Rds.trod (Rds.slice Try.underlying24 (Rds.slice Try.underlying22 (Rds.struct (f := fun x : S36 => (x.f0, x.f1, x.f2, x.f3)) (g := fun y => (⟨y.1, y.2.1, y.2.2.1, y.2.2.2⟩ : S36)) Try.underlying36 (RF.pair (Rds.int Try.underlying34) (by kernel_rfl) (RF.pair (Rds.string Try.underlying9) (by kernel_rfl) (RF.pair (Rds.string Try.underlying9) (by kernel_rfl) (RF.one (Rds.bool Try.underlying4) (by kernel_rfl)) rfl) rfl) rfl) (by kernel_rfl) (fun _ => rfl)) (by kernel_rfl)) (by kernel_rfl)) h1
  clear hA0 hval0 hsz0 hsz
  refine (Print.thwartlaw15_MergeElder.walk Pure.MergeElder A0 n0 c0 l0 A1 n1 c1 l1 W K0 y0 G0 K1 y1 G1).mono fun e W' ⟨he, bel⟩ => ?_
  subst he
  exact ⟨_, rfl, _, _, _, [], _, [], hW', trodAll_mk1 (shut_bool Try.underlying4 _), (trodAll_cons_mk (Below.trod laidOut (by kernel_rfl) (of_decide_eq_true (by kernel_rfl)) k0 bel lt0) (trodAll_cons_mk (Below.trod laidOut (by kernel_rfl) (of_decide_eq_true (by kernel_rfl)) k1 bel lt1) trodAll_mk0)), rfl, bel.frame _, fun h => by cases h⟩
theorem over : Rows.mergeElderRow.holds Try.pinned (OpenSpec.ofChange Rows.mergeElderSpec) :=
  OpenClaim.holds_of_wide 6 Try.f6 rfl rfl rfl rfl rfl rfl rfl ⟨rfl, rfl, rfl, rfl, rfl⟩ rfl rfl rfl rfl rfl (by kernel_rfl) Try.func6 (by kernel_rfl)
    (of_decide_eq_true (by kernel_rfl)) (by unfold Func.isWrapper; first | (rw [if_pos (by decide +kernel)]; kernel_rfl) | (rw [if_neg (by decide +kernel)]; exact ⟨rfl, rfl⟩))
    (fun os started H enc _ => lifted os started H enc)
theorem proved : Rows.MergeElderSaid := over
#print axioms proved
end Go.Proofs.Ytlfhnpecfkhcpaa.mergeElder
namespace Go.Proofs.Ytlfhnpecfkhcpaa
/-- The row, under a short name, for the claim. -/
theorem mergeElder_holds : Rows.MergeElderSaid := mergeElder.proved
end Go.Proofs.Ytlfhnpecfkhcpaa
