/- Whatever the program's functions on memos tell, the document's tell: for all memos of at most 60 nodes and groups, all nodes and numbers. No further condition. -/
import Derived.Test.YtkidnomkfdnciaaTold
namespace Go.Proofs.Ytkidnomkfdnciaa.Pure
open Go.RowKit Go.Proofs.Ytkidnomkfdnciaa.All Go.Proofs.YtkidnomkfdnciaaW.PrintWords
def MemoTellsPure : Prop := ∀ (N0 : List S48) (G0 P0 : List Int), Lim N0 G0 P0 → ∀ (N1 : List S48) (G1 P1 : List Int), Lim N1 G1 P1 → ∀ n2 : S48, ∀ a3 : Int, (Lit.int .i64 a3).wf = true → ∀ a4 : Int, (Lit.int .i64 a4).wf = true → ∃ k, roadbooklaw16_MemoTells.f k N0 G0 P0 N1 G1 P1 n2.f0 n2.f1 n2.f2 n2.f3 a3 a4 = some true
theorem MemoTells : MemoTellsPure := by
  intro N G P hL N' G' P' _ n g _ q _
  refine ⟨0, ?_⟩
  unfold roadbooklaw16_MemoTells.f
  rw [if_pos (limT_iff.2 hL)]
end Go.Proofs.Ytkidnomkfdnciaa.Pure
