/- Words of the printed walks: of what the kit's print lays for this seat, that which its texts use (cut by a program of the session, wip/tools/trim.py). -/
import Derived.SizedLaws
import Derived.ChangeSlices
namespace Go.Proofs.YtkidnomkfdnciaaW.PrintWords
open Go.ChangeShapes Go.WideShapes
end Go.Proofs.YtkidnomkfdnciaaW.PrintWords
