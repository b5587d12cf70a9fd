/- Written by a program of mine (give.py, over the kit's print) out of the translation: contracts of the Go functions. Lean checks it. -/
import Derived.Test.YtcahpaoeailajaaProg
import Derived.Below
import Derived.Deep.Draws
import Derived.Deep.AppendLies
import Derived.Maps.AppendAt
import Derived.OwnWalk
import Derived.Laws.BytesArg
import Derived.Laws.MakeOwn
import Derived.Laws.OwnMore
import Derived.Deep.OwnRows
import Derived.Tactics
import Derived.Lib.ConvBytes
import Derived.Laws.Slices
import Derived.WalkKit
import Derived.KernelRfl
import Derived.RowKit3
import Derived.Deep.LoopGhost
import Derived.Deep.QuietTactic
import Derived.BigQuiet
import Derived.WideLaws
import Derived.Deep.DeepCutAuto
import Derived.Deep.CutBlock
import Derived.Deep.RegionHeld3
import Derived.Laws.Rows
import Derived.Lib.AppendStr
import Derived.ArgAppend
import Derived.Laws.IdiomCopy
import Derived.OrdersHeld
import Derived.Laws.BitsLemmas
import Derived.RowKit
import Derived.Laws.BitsAllLaws
import Derived.Laws.Bits64
import Derived.Laws.CopyOwn
import Derived.Deep.WholeRow
import Derived.Lib.Strings
import Derived.Test.YtcahpaoeailajaaEv02C
import Derived.Test.YtcahpaoeailajaaWWords
import Derived.Test.YtcahpaoeailajaaWLast
import Derived.Test.YtcahpaoeailajaaWTab
import Derived.Test.YtcahpaoeailajaaWFour
import Derived.Test.YtcahpaoeailajaaWQPut
import Derived.Test.YtcahpaoeailajaaWApart
import Derived.Test.YtcahpaoeailajaaWArr
import Derived.Test.YtcahpaoeailajaaWZeros
import Derived.Test.YtcahpaoeailajaaWFoot
import Derived.Test.YtcahpaoeailajaaWKept
import Derived.Test.YtcahpaoeailajaaWShare
import Derived.Test.YtcahpaoeailajaaWN
import Derived.Test.YtcahpaoeailajaaWFootNe
import Derived.Test.YtcahpaoeailajaaWAt
import Derived.Test.YtcahpaoeailajaaWEqStruct
import Derived.Test.YtcahpaoeailajaaWRepsOne
import Derived.Test.YtcahpaoeailajaaWInv
import Derived.Test.YtcahpaoeailajaaWInvWords
import Derived.Test.YtcahpaoeailajaaWGuard
import Derived.Test.YtcahpaoeailajaaWNEv
import Derived.Test.YtcahpaoeailajaaWMore
namespace Go.Proofs.Ytcahpaoeailajaa.Print
open Go.RowKit Go.Proofs.YtcahpaoeailajaaW.PrintWords Go.Proofs.YtcahpaoeailajaaW.PrintLast Go.Proofs.YtcahpaoeailajaaW.PrintMore
attribute [local go_sem] max2_int min2_int max_two min_two max_three min_three max_four min_four   -- for this text's walks alone
set_option linter.unusedVariables false
set_option linter.unusedSimpArgs false



def errW : Option Int → Value
  | none => .nilIface
  | some c => .iface 0 (.int .i64 c)
theorem isEmpty_bne (l : List UInt8) : l.isEmpty = (!(l != [])) := by cases l <;> rfl
theorem errW_none : errW none = .nilIface := rfl
theorem errW_some (c : Int) : errW (some c) = .iface 0 (.int .i64 c) := rfl

-- the values' own types

end Go.Proofs.Ytcahpaoeailajaa.Print
