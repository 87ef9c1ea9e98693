/- Functions of the program as plain Lean functions, and proofs that the calls do what these say; written for this claim by a program of the session (wip/tools/mkprint.py), checked by Lean. -/
import Derived.Test.YtogancfhameniaaProg
import Derived.Test.YtogancfhameniaaShelf
import Derived.Below
import Derived.Deep.Draws
import Derived.Deep.AppendLies
import Derived.Maps.AppendAt
import Derived.OwnWalk
import Derived.Laws.BytesArg
import Derived.Laws.MakeOwn
import Derived.Laws.OwnMore
import Derived.Deep.OwnRows
import Derived.Tactics
import Derived.Lib.ConvBytes
import Derived.Laws.Slices
import Derived.WalkKit
import Derived.KernelRfl
import Derived.RowKit3
import Derived.Deep.LoopGhost
import Derived.Deep.QuietTactic
import Derived.BigQuiet
import Derived.WideLaws
import Derived.Deep.DeepCutAuto
import Derived.Deep.CutBlock
import Derived.Deep.RegionHeld3
import Derived.Laws.Rows
import Derived.Lib.AppendStr
import Derived.ArgAppend
import Derived.Laws.IdiomCopy
import Derived.OrdersHeld
import Derived.Laws.BitsLemmas
import Derived.RowKit
import Derived.Test.YtogancfhameniaaWWords
import Derived.Test.YtogancfhameniaaWLast
import Derived.Test.YtogancfhameniaaWTab
import Derived.Test.YtogancfhameniaaWFour
import Derived.Test.YtogancfhameniaaWQPut
import Derived.Test.YtogancfhameniaaWApart
import Derived.Test.YtogancfhameniaaWArr
import Derived.Test.YtogancfhameniaaWZeros
import Derived.Test.YtogancfhameniaaWFoot
import Derived.Test.YtogancfhameniaaWKept
import Derived.Test.YtogancfhameniaaWShare
import Derived.Test.YtogancfhameniaaWN
import Derived.Test.YtogancfhameniaaWFootNe
import Derived.Test.YtogancfhameniaaWAt
import Derived.Test.YtogancfhameniaaWEqStruct
import Derived.Test.YtogancfhameniaaWRepsOne
import Derived.Test.YtogancfhameniaaWInv
import Derived.Test.YtogancfhameniaaWInvWords
import Derived.Test.YtogancfhameniaaWGuard
import Derived.Test.YtogancfhameniaaWNEv
import Derived.Test.YtogancfhameniaaWMore
namespace Go.Proofs.Ytogancfhameniaa.Cost
open Go.RowKit Go.Proofs.YtogancfhameniaaW.PrintWords Go.Proofs.YtogancfhameniaaW.PrintLast Go.Proofs.YtogancfhameniaaW.PrintMore
attribute [local go_sem] max2_int min2_int max_two min_two max_three min_three max_four min_four   -- for this text's walks alone
set_option linter.unusedVariables false
set_option linter.unusedSimpArgs false



def errW : Option Int → Value
  | none => .nilIface
  | some c => .iface 0 (.int .i64 c)
theorem errW_none : errW none = .nilIface := rfl
theorem errW_some (c : Int) : errW (some c) = .iface 0 (.int .i64 c) := rfl

theorem info3 : (Try.prog.info? 3).map (fun i => (i.zero, i.size, i.bytes)) = some (some (.int .i64 0), 1, 8) := by kernel_rfl
-- the values' own types

end Go.Proofs.Ytogancfhameniaa.Cost
