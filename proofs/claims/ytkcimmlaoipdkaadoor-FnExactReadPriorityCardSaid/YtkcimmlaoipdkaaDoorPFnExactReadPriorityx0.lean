-- Written by a program of this repo (xprint.py) out of the translation; Lean checks it.
import Derived.Test.YtkcimmlaoipdkaaDoorProg
import Derived.Test.YtkcimmlaoipdkaaDoorRangeC
import Derived.Test.YtkcimmlaoipdkaaDoorLayFnExactReadPriority
import Derived.Below
import Derived.Deep.Draws
import Derived.Deep.AppendLies
import Derived.Maps.AppendAt
import Derived.OwnWalk
import Derived.Laws.BytesArg
import Derived.Laws.MakeOwn
import Derived.Laws.OwnMore
import Derived.Deep.OwnRows
import Derived.Tactics
import Derived.Lib.ConvBytes
import Derived.Laws.Slices
import Derived.WalkKit
import Derived.KernelRfl
import Derived.RowKit3
import Derived.Deep.LoopGhost
import Derived.Deep.QuietTactic
import Derived.BigQuiet
import Derived.WideLaws
import Derived.Deep.DeepCutAuto
import Derived.Deep.CutBlock
import Derived.Deep.RegionHeld3
import Derived.Laws.Rows
import Derived.Lib.AppendStr
import Derived.ArgAppend
import Derived.Laws.IdiomCopy
import Derived.OrdersHeld
import Derived.Laws.BitsLemmas
import Derived.RowKit
import Derived.StillTailTactics
import Derived.ArgAppend
import Derived.Maps.OwnSet
import Derived.Test.YtkcimmlaoipdkaaDoorWWords
import Derived.Test.YtkcimmlaoipdkaaDoorWLast
import Derived.Test.YtkcimmlaoipdkaaDoorWTab
import Derived.Test.YtkcimmlaoipdkaaDoorWFour
import Derived.Test.YtkcimmlaoipdkaaDoorWQPut
import Derived.Test.YtkcimmlaoipdkaaDoorWApart
import Derived.Test.YtkcimmlaoipdkaaDoorWArr
import Derived.Test.YtkcimmlaoipdkaaDoorWZeros
import Derived.Test.YtkcimmlaoipdkaaDoorWFoot
import Derived.Test.YtkcimmlaoipdkaaDoorWKept
import Derived.Test.YtkcimmlaoipdkaaDoorWShare
import Derived.Test.YtkcimmlaoipdkaaDoorWN
import Derived.Test.YtkcimmlaoipdkaaDoorWFootNe
import Derived.Test.YtkcimmlaoipdkaaDoorWAt
import Derived.Test.YtkcimmlaoipdkaaDoorWEqStruct
import Derived.Test.YtkcimmlaoipdkaaDoorWRepsOne
import Derived.Test.YtkcimmlaoipdkaaDoorWInv
import Derived.Test.YtkcimmlaoipdkaaDoorWInvWords
import Derived.Test.YtkcimmlaoipdkaaDoorWGuard
import Derived.Test.YtkcimmlaoipdkaaDoorWNEv
import Derived.Test.YtkcimmlaoipdkaaDoorWMore
namespace Go.Proofs.YtkcimmlaoipdkaaDoor.PFnExactReadPriority
open Go.RowKit Go.Proofs.YtkcimmlaoipdkaaDoorW.PrintWords Go.Proofs.YtkcimmlaoipdkaaDoorW.PrintLast Go.Proofs.YtkcimmlaoipdkaaDoorW.PrintMore
attribute [local go_sem] max2_int min2_int max_two min_two max_three min_three max_four min_four   -- for this text's walks alone
set_option linter.unusedVariables false
set_option linter.unusedSimpArgs false



def errW : Option Int → Value
  | none => .nilIface
  | some c => .iface 0 (.int .i64 c)
theorem errW_none : errW none = .nilIface := rfl
theorem errW_some (c : Int) : errW (some c) = .iface 0 (.int .i64 c) := rfl

-- the values' own types

end Go.Proofs.YtkcimmlaoipdkaaDoor.PFnExactReadPriority
