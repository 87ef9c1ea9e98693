/- Any call is done, any calls one behind the other, and those of several at once, as the document says: for all memos, calls, lists of calls and scripts. No further condition. -/
import Derived.Test.YtkidnomkfdnciaaR20G
namespace Go.Proofs.Ytkidnomkfdnciaa.Pure
open Go.RowKit Go.Proofs.Ytkidnomkfdnciaa.All Go.Proofs.YtkidnomkfdnciaaW.PrintWords
def CallsTellPure : Prop := ∀ (N0 : List S48) (G0 P0 : List Int), Lim N0 G0 P0 → ∀ n1 : S76, ∀ l2 : List (List S76), l2.length ≤ 9223372036854775807 → ∀ l3 : List Int, l3.length * 8 ≤ 140737488351232 → ∃ k, roadbooklaw20_CallsTell.f k N0 G0 P0 n1.f0 n1.f1.f0 n1.f1.f1 n1.f1.f2 n1.f1.f3 n1.f2 n1.f3 l2 l3 = some true
theorem CallsTell : CallsTellPure := by
 intro N G P hL n L _ sc _
 refine ⟨0, ?_⟩
 unfold roadbooklaw20_CallsTell.f
 rw [if_pos (limC_iff.2 hL)]
end Go.Proofs.Ytkidnomkfdnciaa.Pure
