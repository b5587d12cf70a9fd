/- Written by a program of mine (give.py, over the kit's print) out of the translation: contracts of the Go functions. Lean checks it. -/
import Derived.Test.YtefengipbmgpkaaProg
import Derived.Below
import Derived.Deep.Draws
import Derived.Deep.AppendLies
import Derived.Maps.AppendAt
import Derived.OwnWalk
import Derived.Laws.BytesArg
import Derived.Laws.MakeOwn
import Derived.Laws.OwnMore
import Derived.Deep.OwnRows
import Derived.Tactics
import Derived.Lib.ConvBytes
import Derived.Laws.Slices
import Derived.WalkKit
import Derived.KernelRfl
import Derived.RowKit3
import Derived.Deep.LoopGhost
import Derived.Deep.QuietTactic
import Derived.BigQuiet
import Derived.WideLaws
import Derived.Deep.DeepCutAuto
import Derived.Deep.CutBlock
import Derived.Deep.RegionHeld3
import Derived.Laws.Rows
import Derived.Lib.AppendStr
import Derived.ArgAppend
import Derived.Laws.IdiomCopy
import Derived.OrdersHeld
import Derived.Laws.BitsLemmas
import Derived.RowKit
import Derived.Laws.BitsAllLaws
import Derived.Laws.Bits64
import Derived.Test.YtefengipbmgpkaaWWords
import Derived.Test.YtefengipbmgpkaaWLast
import Derived.Test.YtefengipbmgpkaaWTab
import Derived.Test.YtefengipbmgpkaaWFour
import Derived.Test.YtefengipbmgpkaaWQPut
import Derived.Test.YtefengipbmgpkaaWApart
import Derived.Test.YtefengipbmgpkaaWArr
import Derived.Test.YtefengipbmgpkaaWZeros
import Derived.Test.YtefengipbmgpkaaWFoot
import Derived.Test.YtefengipbmgpkaaWKept
import Derived.Test.YtefengipbmgpkaaWShare
import Derived.Test.YtefengipbmgpkaaWN
import Derived.Test.YtefengipbmgpkaaWFootNe
import Derived.Test.YtefengipbmgpkaaWAt
import Derived.Test.YtefengipbmgpkaaWEqStruct
import Derived.Test.YtefengipbmgpkaaWRepsOne
import Derived.Test.YtefengipbmgpkaaWInv
import Derived.Test.YtefengipbmgpkaaWInvWords
import Derived.Test.YtefengipbmgpkaaWGuard
import Derived.Test.YtefengipbmgpkaaWNEv
import Derived.Test.YtefengipbmgpkaaWMore
namespace Go.Proofs.Ytefengipbmgpkaa.Print
open Go.RowKit Go.Proofs.YtefengipbmgpkaaW.PrintWords Go.Proofs.YtefengipbmgpkaaW.PrintLast Go.Proofs.YtefengipbmgpkaaW.PrintMore
attribute [local go_sem] max2_int min2_int max_two min_two max_three min_three max_four min_four   -- for this text's walks alone
set_option linter.unusedVariables false
set_option linter.unusedSimpArgs false



def errW : Option Int → Value
  | none => .nilIface
  | some c => .iface 0 (.int .i64 c)
theorem errW_none : errW none = .nilIface := rfl
theorem errW_some (c : Int) : errW (some c) = .iface 0 (.int .i64 c) := rfl

theorem info5 : (Try.prog.info? 5).map (fun i => (i.zero, i.size, i.bytes)) = some (some (.int .u8 0), 1, 1) := by kernel_rfl
-- the values' own types

end Go.Proofs.Ytefengipbmgpkaa.Print
