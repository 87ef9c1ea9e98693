/- Functions of the program as plain Lean functions, and proofs that the calls do what these say; written for this claim by a program of the session (wip/tools/mkprint.py), checked by Lean. -/
import Derived.Test.YtogancfhameniaaCostx0
import Derived.Test.YtogancfhameniaaCostx1
import Derived.Test.YtogancfhameniaaCostx2
import Derived.Test.YtogancfhameniaaCostx3
import Derived.Test.YtogancfhameniaaCostx4
namespace Go.Proofs.Ytogancfhameniaa.Cost
open Go.RowKit Go.Proofs.YtogancfhameniaaW.PrintWords Go.Proofs.YtogancfhameniaaW.PrintLast Go.Proofs.YtogancfhameniaaW.PrintMore
attribute [local go_sem] max2_int min2_int max_two min_two max_three min_three max_four min_four   -- for this text's walks alone
set_option linter.unusedVariables false
set_option linter.unusedSimpArgs false

end Go.Proofs.Ytogancfhameniaa.Cost
