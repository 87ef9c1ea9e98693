/- Words of the printed walks: of what the kit's print lays for this seat, that which its texts use (cut by a program of the session, wip/tools/trim.py). -/
import Derived.Test.YtkidnomkfdnciaaWTab
/-! ### 56. Four, five, six operations that may come up next, in any order -/
namespace Go.Proofs.YtkidnomkfdnciaaW.PrintLast
section
variable {P : Program} {ops : Array Oper} {Q : Exit → Act → World → Prop} {md : Region.Mode} {S : World → Prop} {ds : List Nat} {T : Bool × List (List Nat × List Nat)}
end
end Go.Proofs.YtkidnomkfdnciaaW.PrintLast
