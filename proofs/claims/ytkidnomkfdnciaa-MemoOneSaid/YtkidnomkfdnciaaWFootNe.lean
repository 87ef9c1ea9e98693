/- Words of the printed walks: of what the kit's print lays for this seat, that which its texts use (cut by a program of the session, wip/tools/trim.py). -/
import Derived.Test.YtkidnomkfdnciaaWN
/-! ### 52. A row that stays read whatever happens to a block (a set of blocks) doesn't lie there -/
namespace Go.Proofs.YtkidnomkfdnciaaW.PrintWords
open Go.RowKit
namespace Kd
section
variable {α : Type} {d : Kd α} {W : World} {g n : Nat} {S ok : Nat → Prop} {A : Option Addr} {ad : Addr} {xs : List α}
end
end Kd
end Go.Proofs.YtkidnomkfdnciaaW.PrintWords
