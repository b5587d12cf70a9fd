/- Proved: MergeTells, the given statement, whole: the newest records of any, those that stand, what is left of them, and their batches. No condition but the row's own (what can be read, of the sizes that a reading may have). Written by a program over the kit's print. -/
import Derived.Test.YtlfhnpecfkhcpaaRows
import Derived.Test.YtlfhnpecfkhcpaaPrint7
import Derived.Test.YtlfhnpecfkhcpaaRow
import Derived.Test.YtlfhnpecfkhcpaaPureMergeTells
import Derived.WalkKit
import Derived.ProofKit
import Derived.OpenShut
import Derived.ShutString
import Derived.ChangeOld
import Derived.Below
import Derived.SizedLaws
namespace Go.Proofs.Ytlfhnpecfkhcpaa.mergeTells
open Go.ChangeShapes Go.WideShapes Go.ChangeAt Go.RowKit Go.Proofs.Ytlfhnpecfkhcpaa.Thw Go.Proofs.Ytlfhnpecfkhcpaa.Print Go.Proofs.YtlfhnpecfkhcpaaW.PrintWords
open Go.ChangeMaps (open_string shut_string)
set_option linter.unusedVariables false
theorem own : ownKnob Try.prog.godebug = none := by kernel_rfl
theorem laidOut : laidOutB Try.prog = true := by kernel_rfl
set_option maxRecDepth 100000 in
theorem lifted (os : Os) (started : os.Started) (H : Type) (enc : TypeId × Value → H) :
    ReturnsInHanded {} Try.checked os 4 .any (Rows.mergeTellsSpec.pre6 enc Try.prog Try.f4 Rows.mergeTellsRow.domain false) (Rows.mergeTellsSpec.post enc Try.prog Try.f4 false true false false) := by
  refine returnsInHanded_of_change_sized (C := Try.checked) own started (by kernel_rfl) Try.func4
    (ChangeSpec.witness6 (enc := enc) (C := Try.checked) false ⟨#[], #[.slice none 0 0, .bool false], []⟩ 8 (by kernel_rfl) (by kernel_rfl) (by kernel_rfl) (by kernel_rfl)) ?_
  intro W base args ds gs before hval0 hW hcnd hsz0 _
  have hsz : (DataW.weightsEach Try.prog (Try.f4.params.toList ++ Rows.mergeTellsSpec.plain.varTypes Try.prog) (ds ++ gs)).all (· ≤ reachBytes) = true := hsz0
  have hval : ∀ (j : Nat) t v, Try.f4.params[j]? = some t → args[j]? = some v → Value.okWide Try.prog W .any base t v := hval0
  have hW' := hW
  obtain ⟨p, q, hA0, hV, rfl, hfz, hnd⟩ := hW
  have hA : DataW.TrodAll enc Try.prog W 0 (fun _ => true) true Try.f4.params.toList args.toList ds p := hA0
  rw [Try.params4] at hA hval hsz
  obtain ⟨v0, vs0, d0, ds0, p0, q0, hargs, rfl, rfl, h0, r0⟩ := trodAll_cons hA
  obtain ⟨v1, vs1, d1, ds1, p1, q1, rfl, rfl, rfl, h1, r1⟩ := trodAll_cons r0
  obtain ⟨rfl, rfl, rfl⟩ := trodAll_nil r1
  obtain rfl : args = #[v0, v1] := by cases args; simp_all
  obtain ⟨rfl, rfl⟩ := trodVars_none hV
  have k0 := h0
  have lt0 : ∀ x ∈ p0, x.block < W.heap.size := by obtain ⟨m, hm⟩ := k0; exact DataW.trod_lt m _ _ _ hm
  obtain ⟨A0, n0, c0, rfl⟩ := okWide_slice Try.underlying24 (hval 0 24 v0 rfl rfl)
  have y0 : n0 * 24 ≤ 140737488351232 := sized_row hsz (j := 0) (t := 24) rfl rfl Try.underlying24 (by kernel_rfl) h0
  obtain ⟨l0, K0, G0⟩ := Rds.trod (Rds.slice Try.underlying24 (Rds.slice Try.underlying22 (Rds.struct (f := fun x : S36 => (x.f0, x.f1, x.f2, x.f3)) (g := fun y => (⟨y.1, y.2.1, y.2.2.1, y.2.2.2⟩ : S36)) Try.underlying36 (RF.pair (Rds.int Try.underlying34) (by kernel_rfl) (RF.pair (Rds.string Try.underlying9) (by kernel_rfl) (RF.pair (Rds.string Try.underlying9) (by kernel_rfl) (RF.one (Rds.bool Try.underlying4) (by kernel_rfl)) rfl) rfl) rfl) (by kernel_rfl) (fun _ => rfl)) (by kernel_rfl)) (by kernel_rfl)) h0
  obtain ⟨a1, rfl, rfl, rfl⟩ := open_bool Try.underlying4 (hval 1 4 v1 rfl rfl) h1
  clear hA0 hval0 hsz0 hsz
  refine (Print.thwartlaw15_MergeTells.walk Pure.MergeTells A0 n0 c0 l0 a1 W K0 y0 G0).mono fun e W' ⟨he, bel⟩ => ?_
  subst he
  exact ⟨_, rfl, _, _, _, [], _, [], hW', trodAll_mk1 (shut_bool Try.underlying4 _), (trodAll_cons_mk (Below.trod laidOut (by kernel_rfl) (of_decide_eq_true (by kernel_rfl)) k0 bel lt0) (trodAll_cons_mk (shut_bool Try.underlying4 _) trodAll_mk0)), rfl, bel.frame _, fun h => by cases h⟩
theorem over : Rows.mergeTellsRow.holds Try.pinned (OpenSpec.ofChange Rows.mergeTellsSpec) :=
  OpenClaim.holds_of_wide 4 Try.f4 rfl rfl rfl rfl rfl rfl rfl ⟨rfl, rfl, rfl, rfl, rfl⟩ rfl rfl rfl rfl rfl (by kernel_rfl) Try.func4 (by kernel_rfl)
    (of_decide_eq_true (by kernel_rfl)) (by unfold Func.isWrapper; first | (rw [if_pos (by decide +kernel)]; kernel_rfl) | (rw [if_neg (by decide +kernel)]; exact ⟨rfl, rfl⟩))
    (fun os started H enc _ => lifted os started H enc)
theorem proved : Rows.MergeTellsSaid := over
#print axioms proved
end Go.Proofs.Ytlfhnpecfkhcpaa.mergeTells
namespace Go.Proofs.Ytlfhnpecfkhcpaa
/-- The row, under a short name, for the claim. -/
theorem mergeTells_holds : Rows.MergeTellsSaid := mergeTells.proved
end Go.Proofs.Ytlfhnpecfkhcpaa
