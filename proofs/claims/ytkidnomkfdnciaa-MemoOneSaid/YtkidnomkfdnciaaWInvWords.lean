/- Words of the printed walks: of what the kit's print lays for this seat, that which its texts use (cut by a program of the session, wip/tools/trim.py). -/
import Derived.Test.YtkidnomkfdnciaaWInv
import Derived.Test.YtkidnomkfdnciaaWFootNe
namespace Go.Proofs.YtkidnomkfdnciaaW.PrintWords
open Go.RowKit
end Go.Proofs.YtkidnomkfdnciaaW.PrintWords
namespace Go.Proofs.YtkidnomkfdnciaaW.PrintLast
section
variable {ops : Array Oper} {a : Act} {o og : Oper} {g : Nat} {t : Tmp} {u : Bool}
end
end Go.Proofs.YtkidnomkfdnciaaW.PrintLast
