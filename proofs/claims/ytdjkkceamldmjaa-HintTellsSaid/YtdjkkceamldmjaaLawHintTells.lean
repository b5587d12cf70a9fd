/- Proved: HintTells, the given statement, whole: the entries of any segment's bytes, and the record that any entry tells of. No condition but the row's own (what can be read, of the sizes that a reading may have). Written by a program over the kit's print. -/
import Derived.Test.YtdjkkceamldmjaaRows
import Derived.Test.YtdjkkceamldmjaaPrint15
import Derived.Test.YtdjkkceamldmjaaRow
import Derived.Test.YtdjkkceamldmjaaPureHintTells
import Derived.WalkKit
import Derived.ProofKit
import Derived.OpenShut
import Derived.ShutString
import Derived.ChangeOld
import Derived.Below
import Derived.SizedLaws
namespace Go.Proofs.Ytdjkkceamldmjaa.hintTells
open Go.ChangeShapes Go.WideShapes Go.ChangeAt Go.RowKit Go.Proofs.Ytdjkkceamldmjaa.Thw Go.Proofs.Ytdjkkceamldmjaa.Print Go.Proofs.YtdjkkceamldmjaaW.PrintWords
open Go.ChangeMaps (open_string shut_string)
set_option linter.unusedVariables false
theorem own : ownKnob Try.prog.godebug = none := by kernel_rfl
theorem laidOut : laidOutB Try.prog = true := by kernel_rfl
set_option maxRecDepth 100000 in
theorem lifted (os : Os) (started : os.Started) (H : Type) (enc : TypeId × Value → H) :
    ReturnsInHanded {} Try.checked os 4 .any (Rows.hintTellsSpec.pre6 enc Try.prog Try.f4 Rows.hintTellsRow.domain false) (Rows.hintTellsSpec.post enc Try.prog Try.f4 false true false false) := by
  refine returnsInHanded_of_change_sized (C := Try.checked) own started (by kernel_rfl) Try.func4
    (ChangeSpec.witness6 (enc := enc) (C := Try.checked) false ⟨#[], #[.string ByteArray.empty, .agg #[.string ByteArray.empty, .int .i64 0, .int .i64 0, .int .u64 0, .bool false]], []⟩ 8 (by kernel_rfl) (by kernel_rfl) (by kernel_rfl) (by kernel_rfl)) ?_
  intro W base args ds gs before hval0 hW hcnd hsz0 _
  have hsz : (DataW.weightsEach Try.prog (Try.f4.params.toList ++ Rows.hintTellsSpec.plain.varTypes Try.prog) (ds ++ gs)).all (· ≤ reachBytes) = true := hsz0
  have hval : ∀ (j : Nat) t v, Try.f4.params[j]? = some t → args[j]? = some v → Value.okWide Try.prog W .any base t v := hval0
  have hW' := hW
  obtain ⟨p, q, hA0, hV, rfl, hfz, hnd⟩ := hW
  have hA : DataW.TrodAll enc Try.prog W 0 (fun _ => true) true Try.f4.params.toList args.toList ds p := hA0
  rw [Try.params4] at hA hval hsz
  obtain ⟨v0, vs0, d0, ds0, p0, q0, hargs, rfl, rfl, h0, r0⟩ := trodAll_cons hA
  obtain ⟨v1, vs1, d1, ds1, p1, q1, rfl, rfl, rfl, h1, r1⟩ := trodAll_cons r0
  obtain ⟨rfl, rfl, rfl⟩ := trodAll_nil r1
  obtain rfl : args = #[v0, v1] := by cases args; simp_all
  obtain ⟨rfl, rfl⟩ := trodVars_none hV
  obtain ⟨a0, rfl, rfl, rfl, y0⟩ := open_string Try.underlying9 (hval 0 9 v0 rfl rfl) h0
  have w0 : a0.size ≤ 140737488351232 := by
    have z := sized_string hsz (j := 0) (t := 9) rfl rfl
    rw [Array.length_toList] at z
    exact z
  have k1 := h1
  have lt1 : ∀ x ∈ p1, x.block < W.heap.size := by obtain ⟨m, hm⟩ := k1; exact DataW.trod_lt m _ _ _ hm
  obtain ⟨cs1, rfl, _⟩ := okWide_struct Try.underlying39 (hval 1 39 v1 rfl rfl)
  obtain ⟨l1, K1, G1⟩ := Rds.trod (Rds.struct (f := fun x : S39 => (x.f0, x.f1, x.f2, x.f3, x.f4)) (g := fun y => (⟨y.1, y.2.1, y.2.2.1, y.2.2.2.1, y.2.2.2.2⟩ : S39)) Try.underlying39 (RF.pair (Rds.string Try.underlying9) (by kernel_rfl) (RF.pair (Rds.int Try.underlying3) (by kernel_rfl) (RF.pair (Rds.int Try.underlying3) (by kernel_rfl) (RF.pair (Rds.int Try.underlying37) (by kernel_rfl) (RF.one (Rds.bool Try.underlying4) (by kernel_rfl)) rfl) rfl) rfl) rfl) (by kernel_rfl) (fun _ => rfl)) h1
  clear hA0 hval0 hsz0 hsz
  refine (Print.thwartlaw05_HintTells.walk Pure.HintTells a0 l1 cs1 W w0 K1 G1).mono fun e W' ⟨he, bel⟩ => ?_
  subst he
  exact ⟨_, rfl, _, _, _, [], _, [], hW', trodAll_mk1 (shut_bool Try.underlying4 _), (trodAll_cons_mk (shut_string Try.underlying9 y0) (trodAll_cons_mk (Below.trod laidOut (by kernel_rfl) (of_decide_eq_true (by kernel_rfl)) k1 bel lt1) trodAll_mk0)), rfl, bel.frame _, fun h => by cases h⟩
theorem over : Rows.hintTellsRow.holds Try.pinned (OpenSpec.ofChange Rows.hintTellsSpec) :=
  OpenClaim.holds_of_wide 4 Try.f4 rfl rfl rfl rfl rfl rfl rfl ⟨rfl, rfl, rfl, rfl, rfl⟩ rfl rfl rfl rfl rfl (by kernel_rfl) Try.func4 (by kernel_rfl)
    (of_decide_eq_true (by kernel_rfl)) (by unfold Func.isWrapper; first | (rw [if_pos (by decide +kernel)]; kernel_rfl) | (rw [if_neg (by decide +kernel)]; exact ⟨rfl, rfl⟩))
    (fun os started H enc _ => lifted os started H enc)
theorem proved : Rows.HintTellsSaid := over
#print axioms proved
end Go.Proofs.Ytdjkkceamldmjaa.hintTells
namespace Go.Proofs.Ytdjkkceamldmjaa
/-- The row, under a short name, for the claim. -/
theorem hintTells_holds : Rows.HintTellsSaid := hintTells.proved
end Go.Proofs.Ytdjkkceamldmjaa
