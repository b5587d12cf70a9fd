/-
  No cell of these rows narrows 'for every input' (looked for: loops, veiled, ifaces, maps, wideKeys, modest, calm, conditions, laid).
  DERIVED. THE GIVEN ROWS OF THIS SEAT. 9 by the template 'for every input the law returns true; each argument reads behind the call as it read before'; 0 by the template 'total and deterministic' (their statements: YtefengipbmgpkaaTotals.lean).
  GIVEN WITH THE SEED: the statements are not yours to turn. If you find one false, say at which input.
  Laid BY PROGRAM, IN A SANDBOX (cutbox-rows.mjs): the forced cells as the released guide's own fill.sh prints them over the translation a1ee907264d1c799… (all of the seat's roots in one cut). By AI agents, Wed Nov 11 2026. No macro, syntax, notation, axiom, sorry.
-/
import Derived.Test.YtefengipbmgpkaaChecked
import GoSem.Claim
import GoSem.ClaimJoined
import GoSem.ClaimMapViews
import Derived.JoinedTies
import Derived.KernelRfl
namespace Go.Proofs.Ytefengipbmgpkaa
/- THE CELL 'sum', in the pinned program and in every row, IS THE sha256 OF THE DUMP (.gsa) THAT YtefengipbmgpkaaProg.lean LOADS. Nothing in Lean hashes anything: it is a label: what it is worth is what the hold of that sum in a sandbox is worth. -/
noncomputable def Try.pinned : Pinned := { name := "ytefengipbmgpkaa", sum := "a1ee907264d1c799371e3a3cf5da14cb18d83c9cd4bb495c27f1cd080a122c86", checked := Try.checked }
namespace Rows
def none {H : Type} : Left H := { results := [], args := [] }

/-- 'thwartlaw09.HashMixes': WHATEVER THE INPUT: true; the input reads as it did. -/
def hashMixesSpec : ChangeSpec := { name := "hashMixes", fn := fun _ => fun
  | [d1, d2] => { results := [.lit (.bool true)], args := [d1, d2] }
  | _ => none }
def hashMixesRow : OpenClaim := { program := "ytefengipbmgpkaa", sum := "a1ee907264d1c799371e3a3cf5da14cb18d83c9cd4bb495c27f1cd080a122c86", func := "thwart/thwartlaw09.HashMixes", spec := "hashMixes", apart := false }
def HashMixesSaid : Prop := hashMixesRow.holds Try.pinned (OpenSpec.ofChange hashMixesSpec)

/-- ITS FALSE NEIGHBOUR: 'it returns false'. Refute it at one input. -/
def hashMixesWrong : ChangeSpec := { name := "hashMixes", fn := fun _ => fun
  | [d1, d2] => { results := [.lit (.bool false)], args := [d1, d2] }
  | _ => none }
def HashMixesWrongFalsely : Prop := hashMixesRow.holds Try.pinned (OpenSpec.ofChange hashMixesWrong)

/-- 'thwartlaw09.HashSums': WHATEVER THE INPUT: true; the input reads as it did. -/
def hashSumsSpec : ChangeSpec := { name := "hashSums", fn := fun _ => fun
  | [d1, d2, d3] => { results := [.lit (.bool true)], args := [d1, d2, d3] }
  | _ => none }
def hashSumsRow : OpenClaim := { program := "ytefengipbmgpkaa", sum := "a1ee907264d1c799371e3a3cf5da14cb18d83c9cd4bb495c27f1cd080a122c86", func := "thwart/thwartlaw09.HashSums", spec := "hashSums", apart := false }
def HashSumsSaid : Prop := hashSumsRow.holds Try.pinned (OpenSpec.ofChange hashSumsSpec)

/-- ITS FALSE NEIGHBOUR: 'it returns false'. Refute it at one input. -/
def hashSumsWrong : ChangeSpec := { name := "hashSums", fn := fun _ => fun
  | [d1, d2, d3] => { results := [.lit (.bool false)], args := [d1, d2, d3] }
  | _ => none }
def HashSumsWrongFalsely : Prop := hashSumsRow.holds Try.pinned (OpenSpec.ofChange hashSumsWrong)

/-- 'thwartlaw09.HashPlaces': WHATEVER THE INPUT: true; the input reads as it did. -/
def hashPlacesSpec : ChangeSpec := { name := "hashPlaces", fn := fun _ => fun
  | [d1, d2] => { results := [.lit (.bool true)], args := [d1, d2] }
  | _ => none }
def hashPlacesRow : OpenClaim := { program := "ytefengipbmgpkaa", sum := "a1ee907264d1c799371e3a3cf5da14cb18d83c9cd4bb495c27f1cd080a122c86", func := "thwart/thwartlaw09.HashPlaces", spec := "hashPlaces", apart := false }
def HashPlacesSaid : Prop := hashPlacesRow.holds Try.pinned (OpenSpec.ofChange hashPlacesSpec)

/-- ITS FALSE NEIGHBOUR: 'it returns false'. Refute it at one input. -/
def hashPlacesWrong : ChangeSpec := { name := "hashPlaces", fn := fun _ => fun
  | [d1, d2] => { results := [.lit (.bool false)], args := [d1, d2] }
  | _ => none }
def HashPlacesWrongFalsely : Prop := hashPlacesRow.holds Try.pinned (OpenSpec.ofChange hashPlacesWrong)

/-- 'thwartlaw01.VarintLays': WHATEVER THE INPUT: true; the input reads as it did. -/
def varintLaysSpec : ChangeSpec := { name := "varintLays", fn := fun _ => fun
  | [d1, d2, d3] => { results := [.lit (.bool true)], args := [d1, d2, d3] }
  | _ => none }
def varintLaysRow : OpenClaim := { program := "ytefengipbmgpkaa", sum := "a1ee907264d1c799371e3a3cf5da14cb18d83c9cd4bb495c27f1cd080a122c86", func := "thwart/thwartlaw01.VarintLays", spec := "varintLays", recurses := true, apart := false }
def VarintLaysSaid : Prop := varintLaysRow.holds Try.pinned (OpenSpec.ofChange varintLaysSpec)

/-- ITS FALSE NEIGHBOUR: 'it returns false'. Refute it at one input. -/
def varintLaysWrong : ChangeSpec := { name := "varintLays", fn := fun _ => fun
  | [d1, d2, d3] => { results := [.lit (.bool false)], args := [d1, d2, d3] }
  | _ => none }
def VarintLaysWrongFalsely : Prop := varintLaysRow.holds Try.pinned (OpenSpec.ofChange varintLaysWrong)

/-- 'thwartlaw01.VarintOne': WHATEVER THE INPUT: true; the input reads as it did. -/
def varintOneSpec : ChangeSpec := { name := "varintOne", fn := fun _ => fun
  | [d] => { results := [.lit (.bool true)], args := [d] }
  | _ => none }
def varintOneRow : OpenClaim := { program := "ytefengipbmgpkaa", sum := "a1ee907264d1c799371e3a3cf5da14cb18d83c9cd4bb495c27f1cd080a122c86", func := "thwart/thwartlaw01.VarintOne", spec := "varintOne", apart := false }
def VarintOneSaid : Prop := varintOneRow.holds Try.pinned (OpenSpec.ofChange varintOneSpec)

/-- ITS FALSE NEIGHBOUR: 'it returns false'. Refute it at one input. -/
def varintOneWrong : ChangeSpec := { name := "varintOne", fn := fun _ => fun
  | [d] => { results := [.lit (.bool false)], args := [d] }
  | _ => none }
def VarintOneWrongFalsely : Prop := varintOneRow.holds Try.pinned (OpenSpec.ofChange varintOneWrong)

/-- 'thwartlaw01.VarintSigns': WHATEVER THE INPUT: true; the input reads as it did. -/
def varintSignsSpec : ChangeSpec := { name := "varintSigns", fn := fun _ => fun
  | [d1, d2, d3] => { results := [.lit (.bool true)], args := [d1, d2, d3] }
  | _ => none }
def varintSignsRow : OpenClaim := { program := "ytefengipbmgpkaa", sum := "a1ee907264d1c799371e3a3cf5da14cb18d83c9cd4bb495c27f1cd080a122c86", func := "thwart/thwartlaw01.VarintSigns", spec := "varintSigns", apart := false }
def VarintSignsSaid : Prop := varintSignsRow.holds Try.pinned (OpenSpec.ofChange varintSignsSpec)

/-- ITS FALSE NEIGHBOUR: 'it returns false'. Refute it at one input. -/
def varintSignsWrong : ChangeSpec := { name := "varintSigns", fn := fun _ => fun
  | [d1, d2, d3] => { results := [.lit (.bool false)], args := [d1, d2, d3] }
  | _ => none }
def VarintSignsWrongFalsely : Prop := varintSignsRow.holds Try.pinned (OpenSpec.ofChange varintSignsWrong)

/-- 'thwartlaw01.VarintTakes': WHATEVER THE INPUT: true; the input reads as it did. -/
def varintTakesSpec : ChangeSpec := { name := "varintTakes", fn := fun _ => fun
  | [d] => { results := [.lit (.bool true)], args := [d] }
  | _ => none }
def varintTakesRow : OpenClaim := { program := "ytefengipbmgpkaa", sum := "a1ee907264d1c799371e3a3cf5da14cb18d83c9cd4bb495c27f1cd080a122c86", func := "thwart/thwartlaw01.VarintTakes", spec := "varintTakes", recurses := true, apart := false }
def VarintTakesSaid : Prop := varintTakesRow.holds Try.pinned (OpenSpec.ofChange varintTakesSpec)

/-- ITS FALSE NEIGHBOUR: 'it returns false'. Refute it at one input. -/
def varintTakesWrong : ChangeSpec := { name := "varintTakes", fn := fun _ => fun
  | [d] => { results := [.lit (.bool false)], args := [d] }
  | _ => none }
def VarintTakesWrongFalsely : Prop := varintTakesRow.holds Try.pinned (OpenSpec.ofChange varintTakesWrong)

/-- 'thwartlaw01.VarintBack': WHATEVER THE INPUT: true; the input reads as it did. -/
def varintBackSpec : ChangeSpec := { name := "varintBack", fn := fun _ => fun
  | [d1, d2, d3] => { results := [.lit (.bool true)], args := [d1, d2, d3] }
  | _ => none }
def varintBackRow : OpenClaim := { program := "ytefengipbmgpkaa", sum := "a1ee907264d1c799371e3a3cf5da14cb18d83c9cd4bb495c27f1cd080a122c86", func := "thwart/thwartlaw01.VarintBack", spec := "varintBack", apart := false }
def VarintBackSaid : Prop := varintBackRow.holds Try.pinned (OpenSpec.ofChange varintBackSpec)

/-- ITS FALSE NEIGHBOUR: 'it returns false'. Refute it at one input. -/
def varintBackWrong : ChangeSpec := { name := "varintBack", fn := fun _ => fun
  | [d1, d2, d3] => { results := [.lit (.bool false)], args := [d1, d2, d3] }
  | _ => none }
def VarintBackWrongFalsely : Prop := varintBackRow.holds Try.pinned (OpenSpec.ofChange varintBackWrong)

/-- 'thwartlaw01.VarintCuts': WHATEVER THE INPUT: true; the input reads as it did. -/
def varintCutsSpec : ChangeSpec := { name := "varintCuts", fn := fun _ => fun
  | [d1, d2, d3] => { results := [.lit (.bool true)], args := [d1, d2, d3] }
  | _ => none }
def varintCutsRow : OpenClaim := { program := "ytefengipbmgpkaa", sum := "a1ee907264d1c799371e3a3cf5da14cb18d83c9cd4bb495c27f1cd080a122c86", func := "thwart/thwartlaw01.VarintCuts", spec := "varintCuts", apart := false }
def VarintCutsSaid : Prop := varintCutsRow.holds Try.pinned (OpenSpec.ofChange varintCutsSpec)

/-- ITS FALSE NEIGHBOUR: 'it returns false'. Refute it at one input. -/
def varintCutsWrong : ChangeSpec := { name := "varintCuts", fn := fun _ => fun
  | [d1, d2, d3] => { results := [.lit (.bool false)], args := [d1, d2, d3] }
  | _ => none }
def VarintCutsWrongFalsely : Prop := varintCutsRow.holds Try.pinned (OpenSpec.ofChange varintCutsWrong)

/- THE SECOND FORM. 'bulk': how many values and letters a reading holds, each counted each time it is reached (what is shared counts as often as it is met; a slice's spare places count too). A statement '..UptoSaid' is the law's where the arguments, and the package variables that the reading takes, are together of bulk at most 1048576: NARROWER than '..Said'. Prove '..Said' where nothing that the law and all that it calls make is longer than what came in: it says more and counts as full. Else prove '..UptoSaid'. A law counts once. -/
mutual
def uptoBulk {H : Type} : DataW H → Nat
  | .lit (.string bytes) => bytes.length + 1
  | .lit _ => 1
  | .nil => 1
  | .ptr d => uptoBulk d + 1
  | .slice elems spare => uptoBulkAll elems + uptoBulkAll spare + 1
  | .agg parts => uptoBulkAll parts + 1
  | .iface _ d => uptoBulk d + 1
  | .map entries => uptoBulkEntries entries + 1
  | .held _ => 1
def uptoBulkAll {H : Type} : List (DataW H) → Nat
  | [] => 0
  | d :: r => uptoBulk d + uptoBulkAll r
def uptoBulkEntries {H : Type} : List (Lit × DataW H) → Nat
  | [] => 0
  | x :: r => uptoBulkEntry x + uptoBulkEntries r
def uptoBulkEntry {H : Type} : Lit × DataW H → Nat
  | (.string bytes, d) => bytes.length + uptoBulk d + 1
  | (_, d) => uptoBulk d + 1
 end
def uptoSmall : (H : Type) → List (DataW H) → Bool := fun _ ds => decide (uptoBulkAll ds ≤ 1048576)
def OpenSpec.upto (s : _root_.Go.ChangeSpec) : _root_.Go.OpenSpec := { _root_.Go.OpenSpec.ofChange s with cond := some uptoSmall }

/-- 'thwartlaw09.HashMixes', WHERE WHAT IT READS IS OF BULK AT MOST 1048576: true; the input reads as it did. -/
def hashMixesUptoRow : OpenClaim := { program := "ytefengipbmgpkaa", sum := "a1ee907264d1c799371e3a3cf5da14cb18d83c9cd4bb495c27f1cd080a122c86", func := "thwart/thwartlaw09.HashMixes", spec := "hashMixes", apart := false, narrowed := true }
def HashMixesUptoSaid : Prop := hashMixesUptoRow.holds Try.pinned (OpenSpec.upto hashMixesSpec)

/-- 'thwartlaw09.HashSums', WHERE WHAT IT READS IS OF BULK AT MOST 1048576: true; the input reads as it did. -/
def hashSumsUptoRow : OpenClaim := { program := "ytefengipbmgpkaa", sum := "a1ee907264d1c799371e3a3cf5da14cb18d83c9cd4bb495c27f1cd080a122c86", func := "thwart/thwartlaw09.HashSums", spec := "hashSums", apart := false, narrowed := true }
def HashSumsUptoSaid : Prop := hashSumsUptoRow.holds Try.pinned (OpenSpec.upto hashSumsSpec)

/-- 'thwartlaw09.HashPlaces', WHERE WHAT IT READS IS OF BULK AT MOST 1048576: true; the input reads as it did. -/
def hashPlacesUptoRow : OpenClaim := { program := "ytefengipbmgpkaa", sum := "a1ee907264d1c799371e3a3cf5da14cb18d83c9cd4bb495c27f1cd080a122c86", func := "thwart/thwartlaw09.HashPlaces", spec := "hashPlaces", apart := false, narrowed := true }
def HashPlacesUptoSaid : Prop := hashPlacesUptoRow.holds Try.pinned (OpenSpec.upto hashPlacesSpec)

/-- 'thwartlaw01.VarintLays', WHERE WHAT IT READS IS OF BULK AT MOST 1048576: true; the input reads as it did. -/
def varintLaysUptoRow : OpenClaim := { program := "ytefengipbmgpkaa", sum := "a1ee907264d1c799371e3a3cf5da14cb18d83c9cd4bb495c27f1cd080a122c86", func := "thwart/thwartlaw01.VarintLays", spec := "varintLays", recurses := true, apart := false, narrowed := true }
def VarintLaysUptoSaid : Prop := varintLaysUptoRow.holds Try.pinned (OpenSpec.upto varintLaysSpec)

/-- 'thwartlaw01.VarintOne', WHERE WHAT IT READS IS OF BULK AT MOST 1048576: true; the input reads as it did. -/
def varintOneUptoRow : OpenClaim := { program := "ytefengipbmgpkaa", sum := "a1ee907264d1c799371e3a3cf5da14cb18d83c9cd4bb495c27f1cd080a122c86", func := "thwart/thwartlaw01.VarintOne", spec := "varintOne", apart := false, narrowed := true }
def VarintOneUptoSaid : Prop := varintOneUptoRow.holds Try.pinned (OpenSpec.upto varintOneSpec)

/-- 'thwartlaw01.VarintSigns', WHERE WHAT IT READS IS OF BULK AT MOST 1048576: true; the input reads as it did. -/
def varintSignsUptoRow : OpenClaim := { program := "ytefengipbmgpkaa", sum := "a1ee907264d1c799371e3a3cf5da14cb18d83c9cd4bb495c27f1cd080a122c86", func := "thwart/thwartlaw01.VarintSigns", spec := "varintSigns", apart := false, narrowed := true }
def VarintSignsUptoSaid : Prop := varintSignsUptoRow.holds Try.pinned (OpenSpec.upto varintSignsSpec)

/-- 'thwartlaw01.VarintTakes', WHERE WHAT IT READS IS OF BULK AT MOST 1048576: true; the input reads as it did. -/
def varintTakesUptoRow : OpenClaim := { program := "ytefengipbmgpkaa", sum := "a1ee907264d1c799371e3a3cf5da14cb18d83c9cd4bb495c27f1cd080a122c86", func := "thwart/thwartlaw01.VarintTakes", spec := "varintTakes", recurses := true, apart := false, narrowed := true }
def VarintTakesUptoSaid : Prop := varintTakesUptoRow.holds Try.pinned (OpenSpec.upto varintTakesSpec)

/-- 'thwartlaw01.VarintBack', WHERE WHAT IT READS IS OF BULK AT MOST 1048576: true; the input reads as it did. -/
def varintBackUptoRow : OpenClaim := { program := "ytefengipbmgpkaa", sum := "a1ee907264d1c799371e3a3cf5da14cb18d83c9cd4bb495c27f1cd080a122c86", func := "thwart/thwartlaw01.VarintBack", spec := "varintBack", apart := false, narrowed := true }
def VarintBackUptoSaid : Prop := varintBackUptoRow.holds Try.pinned (OpenSpec.upto varintBackSpec)

/-- 'thwartlaw01.VarintCuts', WHERE WHAT IT READS IS OF BULK AT MOST 1048576: true; the input reads as it did. -/
def varintCutsUptoRow : OpenClaim := { program := "ytefengipbmgpkaa", sum := "a1ee907264d1c799371e3a3cf5da14cb18d83c9cd4bb495c27f1cd080a122c86", func := "thwart/thwartlaw01.VarintCuts", spec := "varintCuts", apart := false, narrowed := true }
def VarintCutsUptoSaid : Prop := varintCutsUptoRow.holds Try.pinned (OpenSpec.upto varintCutsSpec)

end Rows
end Go.Proofs.Ytefengipbmgpkaa
