/- Proved: LruPlays, the given statement, whole: any calls, one by one; all blocks behind each. No condition but the row's own (what can be read, of the sizes that a reading may have). Written by a program over the kit's print. -/
import Derived.Test.YtoindlghpkjemaaRows
import Derived.Test.YtoindlghpkjemaaPrint2
import Derived.Test.YtoindlghpkjemaaRow
import Derived.Test.YtoindlghpkjemaaPureLruPlays
import Derived.WalkKit
import Derived.ProofKit
import Derived.OpenShut
import Derived.ShutString
import Derived.ChangeOld
import Derived.Below
import Derived.SizedLaws
namespace Go.Proofs.Ytoindlghpkjemaa.lruPlays
open Go.ChangeShapes Go.WideShapes Go.ChangeAt Go.RowKit Go.Proofs.Ytoindlghpkjemaa.Thw Go.Proofs.Ytoindlghpkjemaa.Print Go.Proofs.YtoindlghpkjemaaW.PrintWords
open Go.ChangeMaps (open_string shut_string)
set_option linter.unusedVariables false
theorem own : ownKnob Try.prog.godebug = none := by kernel_rfl
theorem laidOut : laidOutB Try.prog = true := by kernel_rfl
set_option maxRecDepth 100000 in
theorem lifted (os : Os) (started : os.Started) (H : Type) (enc : TypeId × Value → H) :
    ReturnsInHanded {} Try.checked os 6 .any (Rows.lruPlaysSpec.pre6 enc Try.prog Try.f6 Rows.lruPlaysRow.domain false) (Rows.lruPlaysSpec.post enc Try.prog Try.f6 false true false false) := by
  refine returnsInHanded_of_change_sized (C := Try.checked) own started (by kernel_rfl) Try.func6
    (ChangeSpec.witness6 (enc := enc) (C := Try.checked) false ⟨#[], #[.int .i64 0, .slice none 0 0], []⟩ 8 (by kernel_rfl) (by kernel_rfl) (by kernel_rfl) (by kernel_rfl)) ?_
  intro W base args ds gs before hval0 hW hcnd hsz0 _
  have hsz : (DataW.weightsEach Try.prog (Try.f6.params.toList ++ Rows.lruPlaysSpec.plain.varTypes Try.prog) (ds ++ gs)).all (· ≤ reachBytes) = true := hsz0
  have hval : ∀ (j : Nat) t v, Try.f6.params[j]? = some t → args[j]? = some v → Value.okWide Try.prog W .any base t v := hval0
  have hW' := hW
  obtain ⟨p, q, hA0, hV, rfl, hfz, hnd⟩ := hW
  have hA : DataW.TrodAll enc Try.prog W 0 (fun _ => true) true Try.f6.params.toList args.toList ds p := hA0
  rw [Try.params6] at hA hval hsz
  obtain ⟨v0, vs0, d0, ds0, p0, q0, hargs, rfl, rfl, h0, r0⟩ := trodAll_cons hA
  obtain ⟨v1, vs1, d1, ds1, p1, q1, rfl, rfl, rfl, h1, r1⟩ := trodAll_cons r0
  obtain ⟨rfl, rfl, rfl⟩ := trodAll_nil r1
  obtain rfl : args = #[v0, v1] := by cases args; simp_all
  obtain ⟨rfl, rfl⟩ := trodVars_none hV
  obtain ⟨a0, rfl, rfl, rfl, w0⟩ := open_int Try.underlying3 (hval 0 3 v0 rfl rfl) h0
  have k1 := h1
  have lt1 : ∀ x ∈ p1, x.block < W.heap.size := by obtain ⟨m, hm⟩ := k1; exact DataW.trod_lt m _ _ _ hm
  obtain ⟨A1, n1, c1, rfl⟩ := okWide_slice Try.underlying46 (hval 1 46 v1 rfl rfl)
  have y1 : n1 * 40 ≤ 140737488351232 := sized_row hsz (j := 1) (t := 46) rfl rfl Try.underlying46 (by kernel_rfl) h1
  obtain ⟨l1, K1, G1⟩ := Rds.trod (Rds.slice Try.underlying46 (Rds.struct (f := fun x : S56 => (x.f0, x.f1, x.f2)) (g := fun y => (⟨y.1, y.2.1, y.2.2⟩ : S56)) Try.underlying56 (RF.pair (Rds.int Try.underlying3) (by kernel_rfl) (RF.pair (Rds.struct (f := fun x : S54 => (x.f0, x.f1)) (g := fun y => (⟨y.1, y.2⟩ : S54)) Try.underlying54 (RF.pair (Rds.int Try.underlying3) (by kernel_rfl) (RF.one (Rds.int Try.underlying3) (by kernel_rfl)) rfl) (by kernel_rfl) (fun _ => rfl)) (by kernel_rfl) (RF.one (Rds.string Try.underlying9) (by kernel_rfl)) rfl) rfl) (by kernel_rfl) (fun _ => rfl)) (by kernel_rfl)) h1
  clear hA0 hval0 hsz0 hsz
  refine (Print.thwartlaw11_LruPlays.walk Pure.LruPlays a0 A1 n1 c1 l1 W w0 K1 y1 G1).mono fun e W' ⟨he, bel⟩ => ?_
  subst he
  exact ⟨_, rfl, _, _, _, [], _, [], hW', trodAll_mk1 (shut_bool Try.underlying4 _), (trodAll_cons_mk (shut_int Try.underlying3 w0) (trodAll_cons_mk (Below.trod laidOut (by kernel_rfl) (of_decide_eq_true (by kernel_rfl)) k1 bel lt1) trodAll_mk0)), rfl, bel.frame _, fun h => by cases h⟩
theorem over : Rows.lruPlaysRow.holds Try.pinned (OpenSpec.ofChange Rows.lruPlaysSpec) :=
  OpenClaim.holds_of_wide 6 Try.f6 rfl rfl rfl rfl rfl rfl rfl ⟨rfl, rfl, rfl, rfl, rfl⟩ rfl rfl rfl rfl rfl (by kernel_rfl) Try.func6 (by kernel_rfl)
    (of_decide_eq_true (by kernel_rfl)) (by unfold Func.isWrapper; first | (rw [if_pos (by decide +kernel)]; kernel_rfl) | (rw [if_neg (by decide +kernel)]; exact ⟨rfl, rfl⟩))
    (fun os started H enc _ => lifted os started H enc)
theorem proved : Rows.LruPlaysSaid := over
#print axioms proved
end Go.Proofs.Ytoindlghpkjemaa.lruPlays
namespace Go.Proofs.Ytoindlghpkjemaa
/-- The row, under a short name, for the claim. -/
theorem lruPlays_holds : Rows.LruPlaysSaid := lruPlays.proved
end Go.Proofs.Ytoindlghpkjemaa
