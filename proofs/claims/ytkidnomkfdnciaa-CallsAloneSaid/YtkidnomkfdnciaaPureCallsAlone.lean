/- One alone comes to what its calls come to one behind the other, whatever the script, and with nobody nothing happens: for all memos, calls and scripts. No further condition. -/
import Derived.Test.YtkidnomkfdnciaaAlone
namespace Go.Proofs.Ytkidnomkfdnciaa.Pure
open Go.RowKit Go.Proofs.Ytkidnomkfdnciaa.All Go.Proofs.YtkidnomkfdnciaaW.PrintWords
def CallsAlonePure : Prop := ∀ (N0 : List S48) (G0 P0 : List Int), Lim N0 G0 P0 → ∀ l1 : List S76, l1.length ≤ 9223372036854775807 → ∀ l2 : List Int, l2.length * 8 ≤ 140737488351232 → ∃ k, roadbooklaw20_CallsAlone.f k N0 G0 P0 l1 l2 = some true
theorem CallsAlone : CallsAlonePure := by
  intro N G P hL l _ sc _
  refine ⟨0, ?_⟩
  unfold roadbooklaw20_CallsAlone.f
  rw [if_pos (limB_iff.2 hL)]
end Go.Proofs.Ytkidnomkfdnciaa.Pure
