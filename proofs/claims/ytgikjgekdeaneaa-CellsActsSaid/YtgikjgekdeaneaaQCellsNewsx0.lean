/- Printed by wip/gen/myprint.py, a program of this session, for this claim: functions of the program as Lean functions, each with a proof that the Go code comes to its answers. -/
import Derived.Test.YtgikjgekdeaneaaProg
import Derived.Below
import Derived.Deep.Draws
import Derived.Deep.AppendLies
import Derived.Maps.AppendAt
import Derived.OwnWalk
import Derived.Laws.BytesArg
import Derived.Laws.MakeOwn
import Derived.Laws.OwnMore
import Derived.Deep.OwnRows
import Derived.Tactics
import Derived.Lib.ConvBytes
import Derived.Laws.Slices
import Derived.WalkKit
import Derived.KernelRfl
import Derived.RowKit3
import Derived.Deep.LoopGhost
import Derived.Deep.QuietTactic
import Derived.BigQuiet
import Derived.WideLaws
import Derived.Deep.DeepCutAuto
import Derived.Deep.CutBlock
import Derived.Deep.RegionHeld3
import Derived.Laws.Rows
import Derived.Lib.AppendStr
import Derived.ArgAppend
import Derived.Laws.IdiomCopy
import Derived.OrdersHeld
import Derived.Laws.BitsLemmas
import Derived.RowKit
import Derived.Lib.SliceRun
import Derived.Laws.Externs
import Derived.Laws.FloatArith
import Derived.WalkMore
import Derived.Scope
import Derived.Test.YtgikjgekdeaneaaWWords
import Derived.Test.YtgikjgekdeaneaaWLast
import Derived.Test.YtgikjgekdeaneaaWTab
import Derived.Test.YtgikjgekdeaneaaWFour
import Derived.Test.YtgikjgekdeaneaaWQPut
import Derived.Test.YtgikjgekdeaneaaWApart
import Derived.Test.YtgikjgekdeaneaaWArr
import Derived.Test.YtgikjgekdeaneaaWZeros
import Derived.Test.YtgikjgekdeaneaaWFoot
import Derived.Test.YtgikjgekdeaneaaWKept
import Derived.Test.YtgikjgekdeaneaaWShare
import Derived.Test.YtgikjgekdeaneaaWN
import Derived.Test.YtgikjgekdeaneaaWFootNe
import Derived.Test.YtgikjgekdeaneaaWAt
import Derived.Test.YtgikjgekdeaneaaWEqStruct
import Derived.Test.YtgikjgekdeaneaaWRepsOne
import Derived.Test.YtgikjgekdeaneaaWInv
import Derived.Test.YtgikjgekdeaneaaWInvWords
import Derived.Test.YtgikjgekdeaneaaWGuard
import Derived.Test.YtgikjgekdeaneaaWNEv
import Derived.Test.YtgikjgekdeaneaaWMore
namespace Go.Proofs.Ytgikjgekdeaneaa.QCellsNews
open Go.RowKit Go.Proofs.YtgikjgekdeaneaaW.PrintWords Go.Proofs.YtgikjgekdeaneaaW.PrintLast Go.Proofs.YtgikjgekdeaneaaW.PrintMore
attribute [local go_sem] max2_int min2_int max_two min_two max_three min_three max_four min_four   -- for this text's walks alone
set_option linter.unusedVariables false
set_option linter.unusedSimpArgs false



def errW : Option Int → Value
 | none => .nilIface
 | some c => .iface 0 (.int .i64 c)
theorem errW_none : errW none = .nilIface := rfl
theorem errW_some (c : Int) : errW (some c) = .iface 0 (.int .i64 c) := rfl

-- the values' own types

end Go.Proofs.Ytgikjgekdeaneaa.QCellsNews
