/- Proved: KeydirPlays, the given statement, whole: any calls, one by one; where each key stands behind each. No condition but the row's own (what can be read, of the sizes that a reading may have). Written by a program over the kit's print. -/
import Derived.Test.YtcpjfpbfopkngaaRows
import Derived.Test.YtcpjfpbfopkngaaPrint1
import Derived.Test.YtcpjfpbfopkngaaRow
import Derived.Test.YtcpjfpbfopkngaaPureKeydirPlays
import Derived.WalkKit
import Derived.ProofKit
import Derived.OpenShut
import Derived.ShutString
import Derived.ChangeOld
import Derived.Below
import Derived.SizedLaws
namespace Go.Proofs.Ytcpjfpbfopkngaa.keydirPlays
open Go.ChangeShapes Go.WideShapes Go.ChangeAt Go.RowKit Go.Proofs.Ytcpjfpbfopkngaa.Thw Go.Proofs.Ytcpjfpbfopkngaa.Print Go.Proofs.YtcpjfpbfopkngaaW.PrintWords
open Go.ChangeMaps (open_string shut_string)
set_option linter.unusedVariables false
theorem own : ownKnob Try.prog.godebug = none := by kernel_rfl
theorem laidOut : laidOutB Try.prog = true := by kernel_rfl
set_option maxRecDepth 100000 in
theorem lifted (os : Os) (started : os.Started) (H : Type) (enc : TypeId × Value → H) :
    ReturnsInHanded {} Try.checked os 3 .any (Rows.keydirPlaysSpec.pre6 enc Try.prog Try.f3 Rows.keydirPlaysRow.domain false) (Rows.keydirPlaysSpec.post enc Try.prog Try.f3 false true false false) := by
  refine returnsInHanded_of_change_sized (C := Try.checked) own started (by kernel_rfl) Try.func3
    (ChangeSpec.witness6 (enc := enc) (C := Try.checked) false ⟨#[], #[.slice none 0 0, .string ByteArray.empty], []⟩ 8 (by kernel_rfl) (by kernel_rfl) (by kernel_rfl) (by kernel_rfl)) ?_
  intro W base args ds gs before hval0 hW hcnd hsz0 _
  have hsz : (DataW.weightsEach Try.prog (Try.f3.params.toList ++ Rows.keydirPlaysSpec.plain.varTypes Try.prog) (ds ++ gs)).all (· ≤ reachBytes) = true := hsz0
  have hval : ∀ (j : Nat) t v, Try.f3.params[j]? = some t → args[j]? = some v → Value.okWide Try.prog W .any base t v := hval0
  have hW' := hW
  obtain ⟨p, q, hA0, hV, rfl, hfz, hnd⟩ := hW
  have hA : DataW.TrodAll enc Try.prog W 0 (fun _ => true) true Try.f3.params.toList args.toList ds p := hA0
  rw [Try.params3] at hA hval hsz
  obtain ⟨v0, vs0, d0, ds0, p0, q0, hargs, rfl, rfl, h0, r0⟩ := trodAll_cons hA
  obtain ⟨v1, vs1, d1, ds1, p1, q1, rfl, rfl, rfl, h1, r1⟩ := trodAll_cons r0
  obtain ⟨rfl, rfl, rfl⟩ := trodAll_nil r1
  obtain rfl : args = #[v0, v1] := by cases args; simp_all
  obtain ⟨rfl, rfl⟩ := trodVars_none hV
  have k0 := h0
  have lt0 : ∀ x ∈ p0, x.block < W.heap.size := by obtain ⟨m, hm⟩ := k0; exact DataW.trod_lt m _ _ _ hm
  obtain ⟨A0, n0, c0, rfl⟩ := okWide_slice Try.underlying22 (hval 0 22 v0 rfl rfl)
  have y0 : n0 * 56 ≤ 140737488351232 := sized_row hsz (j := 0) (t := 22) rfl rfl Try.underlying22 (by kernel_rfl) h0
  obtain ⟨l0, K0, G0⟩ := Rds.trod (Rds.slice Try.underlying22 (Rds.struct (f := fun x : S33 => (x.f0, x.f1, x.f2)) (g := fun y => (⟨y.1, y.2.1, y.2.2⟩ : S33)) Try.underlying33 (RF.pair (Rds.int Try.underlying3) (by kernel_rfl) (RF.pair (Rds.string Try.underlying9) (by kernel_rfl) (RF.one (Rds.struct (f := fun x : S31 => (x.f0, x.f1, x.f2, x.f3)) (g := fun y => (⟨y.1, y.2.1, y.2.2.1, y.2.2.2⟩ : S31)) Try.underlying31 (RF.pair (Rds.int Try.underlying3) (by kernel_rfl) (RF.pair (Rds.int Try.underlying3) (by kernel_rfl) (RF.pair (Rds.int Try.underlying3) (by kernel_rfl) (RF.one (Rds.int Try.underlying29) (by kernel_rfl)) rfl) rfl) rfl) (by kernel_rfl) (fun _ => rfl)) (by kernel_rfl)) rfl) rfl) (by kernel_rfl) (fun _ => rfl)) (by kernel_rfl)) h0
  obtain ⟨a1, rfl, rfl, rfl, y1⟩ := open_string Try.underlying9 (hval 1 9 v1 rfl rfl) h1
  have w1 : a1.size ≤ 140737488351232 := by
    have z := sized_string hsz (j := 1) (t := 9) rfl rfl
    rw [Array.length_toList] at z
    exact z
  clear hA0 hval0 hsz0 hsz
  refine (Print.thwartlaw10_KeydirPlays.walk Pure.KeydirPlays A0 n0 c0 l0 a1 W K0 y0 G0 w1).mono fun e W' ⟨he, bel⟩ => ?_
  subst he
  exact ⟨_, rfl, _, _, _, [], _, [], hW', trodAll_mk1 (shut_bool Try.underlying4 _), (trodAll_cons_mk (Below.trod laidOut (by kernel_rfl) (of_decide_eq_true (by kernel_rfl)) k0 bel lt0) (trodAll_cons_mk (shut_string Try.underlying9 y1) trodAll_mk0)), rfl, bel.frame _, fun h => by cases h⟩
theorem over : Rows.keydirPlaysRow.holds Try.pinned (OpenSpec.ofChange Rows.keydirPlaysSpec) :=
  OpenClaim.holds_of_wide 3 Try.f3 rfl rfl rfl rfl rfl rfl rfl ⟨rfl, rfl, rfl, rfl, rfl⟩ rfl rfl rfl rfl rfl (by kernel_rfl) Try.func3 (by kernel_rfl)
    (of_decide_eq_true (by kernel_rfl)) (by unfold Func.isWrapper; first | (rw [if_pos (by decide +kernel)]; kernel_rfl) | (rw [if_neg (by decide +kernel)]; exact ⟨rfl, rfl⟩))
    (fun os started H enc _ => lifted os started H enc)
theorem proved : Rows.KeydirPlaysSaid := over
#print axioms proved
end Go.Proofs.Ytcpjfpbfopkngaa.keydirPlays
namespace Go.Proofs.Ytcpjfpbfopkngaa
/-- The row, under a short name, for the claim. -/
theorem keydirPlays_holds : Rows.KeydirPlaysSaid := keydirPlays.proved
end Go.Proofs.Ytcpjfpbfopkngaa
