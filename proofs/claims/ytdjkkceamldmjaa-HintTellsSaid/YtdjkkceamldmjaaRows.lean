/-
  No cell of these rows narrows 'for every input' (looked for: loops, veiled, ifaces, maps, wideKeys, modest, calm, conditions, laid).
  DERIVED. THE GIVEN ROWS OF THIS SEAT. 4 by the template 'for every input the law returns true; each argument reads behind the call as it read before'; 0 by the template 'total and deterministic' (their statements: YtdjkkceamldmjaaTotals.lean).
  GIVEN WITH THE SEED: the statements are not yours to turn. If you find one false, say at which input.
  Laid BY PROGRAM, IN A SANDBOX (cutbox-rows.mjs): the forced cells as the released guide's own fill.sh prints them over the translation 87bb714bb623ecca… (all of the seat's roots in one cut). By AI agents, Wed Nov 11 2026. No macro, syntax, notation, axiom, sorry.
-/
import Derived.Test.YtdjkkceamldmjaaChecked
import GoSem.Claim
import GoSem.ClaimJoined
import GoSem.ClaimMapViews
import Derived.JoinedTies
import Derived.KernelRfl
namespace Go.Proofs.Ytdjkkceamldmjaa
/- THE CELL 'sum', in the pinned program and in every row, IS THE sha256 OF THE DUMP (.gsa) THAT YtdjkkceamldmjaaProg.lean LOADS. Nothing in Lean hashes anything: it is a label: what it is worth is what the hold of that sum in a sandbox is worth. -/
noncomputable def Try.pinned : Pinned := { name := "ytdjkkceamldmjaa", sum := "87bb714bb623eccaf4b401400bff66cbaf14f462e9fd330cc603a77f31064db1", checked := Try.checked }
namespace Rows
def none {H : Type} : Left H := { results := [], args := [] }

/-- 'thwartlaw05.HintReads': WHATEVER THE INPUT: true; the input reads as it did. -/
def hintReadsSpec : ChangeSpec := { name := "hintReads", fn := fun _ => fun
  | [d1, d2] => { results := [.lit (.bool true)], args := [d1, d2] }
  | _ => none }
def hintReadsRow : OpenClaim := { program := "ytdjkkceamldmjaa", sum := "87bb714bb623eccaf4b401400bff66cbaf14f462e9fd330cc603a77f31064db1", func := "thwart/thwartlaw05.HintReads", spec := "hintReads", unfollowed := true, recurses := true, apart := false }
def HintReadsSaid : Prop := hintReadsRow.holds Try.pinned (OpenSpec.ofChange hintReadsSpec)

/-- ITS FALSE NEIGHBOUR: 'it returns false'. Refute it at one input. -/
def hintReadsWrong : ChangeSpec := { name := "hintReads", fn := fun _ => fun
  | [d1, d2] => { results := [.lit (.bool false)], args := [d1, d2] }
  | _ => none }
def HintReadsWrongFalsely : Prop := hintReadsRow.holds Try.pinned (OpenSpec.ofChange hintReadsWrong)

/-- 'thwartlaw05.HintTells': WHATEVER THE INPUT: true; the input reads as it did. -/
def hintTellsSpec : ChangeSpec := { name := "hintTells", fn := fun _ => fun
  | [d1, d2] => { results := [.lit (.bool true)], args := [d1, d2] }
  | _ => none }
def hintTellsRow : OpenClaim := { program := "ytdjkkceamldmjaa", sum := "87bb714bb623eccaf4b401400bff66cbaf14f462e9fd330cc603a77f31064db1", func := "thwart/thwartlaw05.HintTells", spec := "hintTells", unfollowed := true, recurses := true, apart := false }
def HintTellsSaid : Prop := hintTellsRow.holds Try.pinned (OpenSpec.ofChange hintTellsSpec)

/-- ITS FALSE NEIGHBOUR: 'it returns false'. Refute it at one input. -/
def hintTellsWrong : ChangeSpec := { name := "hintTells", fn := fun _ => fun
  | [d1, d2] => { results := [.lit (.bool false)], args := [d1, d2] }
  | _ => none }
def HintTellsWrongFalsely : Prop := hintTellsRow.holds Try.pinned (OpenSpec.ofChange hintTellsWrong)

/-- 'thwartlaw05.HintBack': WHATEVER THE INPUT: true; the input reads as it did. -/
def hintBackSpec : ChangeSpec := { name := "hintBack", fn := fun _ => fun
  | [d1, d2] => { results := [.lit (.bool true)], args := [d1, d2] }
  | _ => none }
def hintBackRow : OpenClaim := { program := "ytdjkkceamldmjaa", sum := "87bb714bb623eccaf4b401400bff66cbaf14f462e9fd330cc603a77f31064db1", func := "thwart/thwartlaw05.HintBack", spec := "hintBack", unfollowed := true, recurses := true, apart := false }
def HintBackSaid : Prop := hintBackRow.holds Try.pinned (OpenSpec.ofChange hintBackSpec)

/-- ITS FALSE NEIGHBOUR: 'it returns false'. Refute it at one input. -/
def hintBackWrong : ChangeSpec := { name := "hintBack", fn := fun _ => fun
  | [d1, d2] => { results := [.lit (.bool false)], args := [d1, d2] }
  | _ => none }
def HintBackWrongFalsely : Prop := hintBackRow.holds Try.pinned (OpenSpec.ofChange hintBackWrong)

/-- 'thwartlaw05.HintEach': WHATEVER THE INPUT: true; the input reads as it did. -/
def hintEachSpec : ChangeSpec := { name := "hintEach", fn := fun _ => fun
  | [d1, d2] => { results := [.lit (.bool true)], args := [d1, d2] }
  | _ => none }
def hintEachRow : OpenClaim := { program := "ytdjkkceamldmjaa", sum := "87bb714bb623eccaf4b401400bff66cbaf14f462e9fd330cc603a77f31064db1", func := "thwart/thwartlaw05.HintEach", spec := "hintEach", unfollowed := true, recurses := true, apart := false }
def HintEachSaid : Prop := hintEachRow.holds Try.pinned (OpenSpec.ofChange hintEachSpec)

/-- ITS FALSE NEIGHBOUR: 'it returns false'. Refute it at one input. -/
def hintEachWrong : ChangeSpec := { name := "hintEach", fn := fun _ => fun
  | [d1, d2] => { results := [.lit (.bool false)], args := [d1, d2] }
  | _ => none }
def HintEachWrongFalsely : Prop := hintEachRow.holds Try.pinned (OpenSpec.ofChange hintEachWrong)

/- THE SECOND FORM. 'bulk': how many values and letters a reading holds, each counted each time it is reached (what is shared counts as often as it is met; a slice's spare places count too). A statement '..UptoSaid' is the law's where the arguments, and the package variables that the reading takes, are together of bulk at most 1048576: NARROWER than '..Said'. Prove '..Said' where nothing that the law and all that it calls make is longer than what came in: it says more and counts as full. Else prove '..UptoSaid'. A law counts once. -/
mutual
def uptoBulk {H : Type} : DataW H → Nat
  | .lit (.string bytes) => bytes.length + 1
  | .lit _ => 1
  | .nil => 1
  | .ptr d => uptoBulk d + 1
  | .slice elems spare => uptoBulkAll elems + uptoBulkAll spare + 1
  | .agg parts => uptoBulkAll parts + 1
  | .iface _ d => uptoBulk d + 1
  | .map entries => uptoBulkEntries entries + 1
  | .held _ => 1
def uptoBulkAll {H : Type} : List (DataW H) → Nat
  | [] => 0
  | d :: r => uptoBulk d + uptoBulkAll r
def uptoBulkEntries {H : Type} : List (Lit × DataW H) → Nat
  | [] => 0
  | x :: r => uptoBulkEntry x + uptoBulkEntries r
def uptoBulkEntry {H : Type} : Lit × DataW H → Nat
  | (.string bytes, d) => bytes.length + uptoBulk d + 1
  | (_, d) => uptoBulk d + 1
 end
def uptoSmall : (H : Type) → List (DataW H) → Bool := fun _ ds => decide (uptoBulkAll ds ≤ 1048576)
def OpenSpec.upto (s : _root_.Go.ChangeSpec) : _root_.Go.OpenSpec := { _root_.Go.OpenSpec.ofChange s with cond := some uptoSmall }

/-- 'thwartlaw05.HintReads', WHERE WHAT IT READS IS OF BULK AT MOST 1048576: true; the input reads as it did. -/
def hintReadsUptoRow : OpenClaim := { program := "ytdjkkceamldmjaa", sum := "87bb714bb623eccaf4b401400bff66cbaf14f462e9fd330cc603a77f31064db1", func := "thwart/thwartlaw05.HintReads", spec := "hintReads", unfollowed := true, recurses := true, apart := false, narrowed := true }
def HintReadsUptoSaid : Prop := hintReadsUptoRow.holds Try.pinned (OpenSpec.upto hintReadsSpec)

/-- 'thwartlaw05.HintTells', WHERE WHAT IT READS IS OF BULK AT MOST 1048576: true; the input reads as it did. -/
def hintTellsUptoRow : OpenClaim := { program := "ytdjkkceamldmjaa", sum := "87bb714bb623eccaf4b401400bff66cbaf14f462e9fd330cc603a77f31064db1", func := "thwart/thwartlaw05.HintTells", spec := "hintTells", unfollowed := true, recurses := true, apart := false, narrowed := true }
def HintTellsUptoSaid : Prop := hintTellsUptoRow.holds Try.pinned (OpenSpec.upto hintTellsSpec)

/-- 'thwartlaw05.HintBack', WHERE WHAT IT READS IS OF BULK AT MOST 1048576: true; the input reads as it did. -/
def hintBackUptoRow : OpenClaim := { program := "ytdjkkceamldmjaa", sum := "87bb714bb623eccaf4b401400bff66cbaf14f462e9fd330cc603a77f31064db1", func := "thwart/thwartlaw05.HintBack", spec := "hintBack", unfollowed := true, recurses := true, apart := false, narrowed := true }
def HintBackUptoSaid : Prop := hintBackUptoRow.holds Try.pinned (OpenSpec.upto hintBackSpec)

/-- 'thwartlaw05.HintEach', WHERE WHAT IT READS IS OF BULK AT MOST 1048576: true; the input reads as it did. -/
def hintEachUptoRow : OpenClaim := { program := "ytdjkkceamldmjaa", sum := "87bb714bb623eccaf4b401400bff66cbaf14f462e9fd330cc603a77f31064db1", func := "thwart/thwartlaw05.HintEach", spec := "hintEach", unfollowed := true, recurses := true, apart := false, narrowed := true }
def HintEachUptoSaid : Prop := hintEachUptoRow.holds Try.pinned (OpenSpec.upto hintEachSpec)

end Rows
end Go.Proofs.Ytdjkkceamldmjaa
