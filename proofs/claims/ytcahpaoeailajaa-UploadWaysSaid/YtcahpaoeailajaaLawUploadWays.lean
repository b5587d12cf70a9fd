/- Proved: UploadWays, the given statement, whole: one goes on from state to state alone, and never back. No condition but the row's own (what can be read, of the sizes that a reading may have). Written by a program over the kit's print. -/
import Derived.Test.YtcahpaoeailajaaRows
import Derived.Test.YtcahpaoeailajaaPrint10
import Derived.Test.YtcahpaoeailajaaRow
import Derived.Test.YtcahpaoeailajaaPureUploadWays
import Derived.WalkKit
import Derived.ProofKit
import Derived.OpenShut
import Derived.ShutString
import Derived.ChangeOld
import Derived.Below
import Derived.SizedLaws
namespace Go.Proofs.Ytcahpaoeailajaa.uploadWays
open Go.ChangeShapes Go.WideShapes Go.ChangeAt Go.RowKit Go.Proofs.Ytcahpaoeailajaa.Thw Go.Proofs.Ytcahpaoeailajaa.Print Go.Proofs.YtcahpaoeailajaaW.PrintWords
open Go.ChangeMaps (open_string shut_string)
set_option linter.unusedVariables false
theorem own : ownKnob Try.prog.godebug = none := by kernel_rfl
theorem laidOut : laidOutB Try.prog = true := by kernel_rfl
set_option maxRecDepth 100000 in
theorem lifted (os : Os) (started : os.Started) (H : Type) (enc : TypeId × Value → H) :
    ReturnsInHanded {} Try.checked os 9 .any (Rows.uploadWaysSpec.pre6 enc Try.prog Try.f9 Rows.uploadWaysRow.domain false) (Rows.uploadWaysSpec.post enc Try.prog Try.f9 false true false false) := by
  refine returnsInHanded_of_change_sized (C := Try.checked) own started (by kernel_rfl) Try.func9
    (ChangeSpec.witness6 (enc := enc) (C := Try.checked) false ⟨#[], #[.agg #[.int .i64 0, .int .i64 0, .int .i64 0], .slice none 0 0, .slice none 0 0], []⟩ 8 (by kernel_rfl) (by kernel_rfl) (by kernel_rfl) (by kernel_rfl)) ?_
  intro W base args ds gs before hval0 hW hcnd hsz0 _
  have hsz : (DataW.weightsEach Try.prog (Try.f9.params.toList ++ Rows.uploadWaysSpec.plain.varTypes Try.prog) (ds ++ gs)).all (· ≤ reachBytes) = true := hsz0
  have hval : ∀ (j : Nat) t v, Try.f9.params[j]? = some t → args[j]? = some v → Value.okWide Try.prog W .any base t v := hval0
  have hW' := hW
  obtain ⟨p, q, hA0, hV, rfl, hfz, hnd⟩ := hW
  have hA : DataW.TrodAll enc Try.prog W 0 (fun _ => true) true Try.f9.params.toList args.toList ds p := hA0
  rw [Try.params9] at hA hval hsz
  obtain ⟨v0, vs0, d0, ds0, p0, q0, hargs, rfl, rfl, h0, r0⟩ := trodAll_cons hA
  obtain ⟨v1, vs1, d1, ds1, p1, q1, rfl, rfl, rfl, h1, r1⟩ := trodAll_cons r0
  obtain ⟨v2, vs2, d2, ds2, p2, q2, rfl, rfl, rfl, h2, r2⟩ := trodAll_cons r1
  obtain ⟨rfl, rfl, rfl⟩ := trodAll_nil r2
  obtain rfl : args = #[v0, v1, v2] := by cases args; simp_all
  obtain ⟨rfl, rfl⟩ := trodVars_none hV
  have k0 := h0
  have lt0 : ∀ x ∈ p0, x.block < W.heap.size := by obtain ⟨m, hm⟩ := k0; exact DataW.trod_lt m _ _ _ hm
  obtain ⟨cs0, rfl, _⟩ := okWide_struct Try.underlying40 (hval 0 40 v0 rfl rfl)
  obtain ⟨l0, K0, G0⟩ := Rds.trod (Rds.struct (f := fun x : S40 => (x.f0, x.f1, x.f2)) (g := fun y => (⟨y.1, y.2.1, y.2.2⟩ : S40)) Try.underlying40 (RF.pair (Rds.int Try.underlying3) (by kernel_rfl) (RF.pair (Rds.int Try.underlying3) (by kernel_rfl) (RF.one (Rds.int Try.underlying3) (by kernel_rfl)) rfl) rfl) (by kernel_rfl) (fun _ => rfl)) h0
  have k1 := h1
  have lt1 : ∀ x ∈ p1, x.block < W.heap.size := by obtain ⟨m, hm⟩ := k1; exact DataW.trod_lt m _ _ _ hm
  obtain ⟨A1, n1, c1, rfl⟩ := okWide_slice Try.underlying48 (hval 1 48 v1 rfl rfl)
  have y1 : n1 * 8 ≤ 140737488351232 := sized_row hsz (j := 1) (t := 48) rfl rfl Try.underlying48 (by kernel_rfl) h1
  obtain ⟨l1, K1, G1⟩ := Rds.trod (Rds.slice Try.underlying48 (Rds.int Try.underlying3) (by kernel_rfl)) h1
  have k2 := h2
  have lt2 : ∀ x ∈ p2, x.block < W.heap.size := by obtain ⟨m, hm⟩ := k2; exact DataW.trod_lt m _ _ _ hm
  obtain ⟨A2, n2, c2, rfl⟩ := okWide_slice Try.underlying49 (hval 2 49 v2 rfl rfl)
  have y2 : n2 * 1 ≤ 140737488351232 := sized_row hsz (j := 2) (t := 49) rfl rfl Try.underlying49 (by kernel_rfl) h2
  obtain ⟨l2, K2, G2⟩ := Rds.trod (Rds.slice Try.underlying49 (Rds.bool Try.underlying4) (by kernel_rfl)) h2
  clear hA0 hval0 hsz0 hsz
  refine (Print.thwartlaw14_UploadWays.walk Pure.UploadWays l0 cs0 A1 n1 c1 l1 A2 n2 c2 l2 W K0 G0 K1 y1 G1 K2 y2 G2).mono fun e W' ⟨he, bel⟩ => ?_
  subst he
  exact ⟨_, rfl, _, _, _, [], _, [], hW', trodAll_mk1 (shut_bool Try.underlying4 _), (trodAll_cons_mk (Below.trod laidOut (by kernel_rfl) (of_decide_eq_true (by kernel_rfl)) k0 bel lt0) (trodAll_cons_mk (Below.trod laidOut (by kernel_rfl) (of_decide_eq_true (by kernel_rfl)) k1 bel lt1) (trodAll_cons_mk (Below.trod laidOut (by kernel_rfl) (of_decide_eq_true (by kernel_rfl)) k2 bel lt2) trodAll_mk0))), rfl, bel.frame _, fun h => by cases h⟩
theorem over : Rows.uploadWaysRow.holds Try.pinned (OpenSpec.ofChange Rows.uploadWaysSpec) :=
  OpenClaim.holds_of_wide 9 Try.f9 rfl rfl rfl rfl rfl rfl rfl ⟨rfl, rfl, rfl, rfl, rfl⟩ rfl rfl rfl rfl rfl (by kernel_rfl) Try.func9 (by kernel_rfl)
    (of_decide_eq_true (by kernel_rfl)) (by unfold Func.isWrapper; first | (rw [if_pos (by decide +kernel)]; kernel_rfl) | (rw [if_neg (by decide +kernel)]; exact ⟨rfl, rfl⟩))
    (fun os started H enc _ => lifted os started H enc)
theorem proved : Rows.UploadWaysSaid := over
#print axioms proved
end Go.Proofs.Ytcahpaoeailajaa.uploadWays
namespace Go.Proofs.Ytcahpaoeailajaa
/-- The row, under a short name, for the claim. -/
theorem uploadWays_holds : Rows.UploadWaysSaid := uploadWays.proved
end Go.Proofs.Ytcahpaoeailajaa
