/- Adding any costs (at most 1000), and what it costs to scan, nest, hash, merge, sort and group any numbers of rows, come to what the reference package tells. No further condition. -/
import Derived.Test.YtogancfhameniaaPlain
namespace Go.Proofs.Ytogancfhameniaa.Pure
open Go.RowKit Go.Proofs.Ytogancfhameniaa.Cost Go.Proofs.YtogancfhameniaaW.PrintWords Go.Proofs.YtogancfhameniaaW.PrintLast Go.Proofs.YtogancfhameniaaW.PrintMore

theorem CostTells : roadbooklaw10_CostTells.Pure := by
  intro l a b h hm hs hw wa wb
  refine ⟨2000, ?_⟩
  unfold roadbooklaw10_CostTells.f
  rw [awake_some _ (by omega)]
  simp only [Option.bind_some, if_true]
  by_cases h1 : (l.length : Int) > 1000
  · rw [decide_eq_true h1]; simp [roadbooklaw10_CostTells.j0]
  rw [decide_eq_false h1]
  simp only [roadbooklaw10_CostTells.j0, Bool.false_eq_true, if_false]
  rw [add_some l _ (by omega) (by omega), radd_some l _ (by omega) (by omega), hash_some _ _ _ (by omega)]
  simp only [Option.bind_some, if_true, scan_some, rscan_some, nest_some, rnest_some, rhash_some, beq_self_eq_true]
  simp only [roadbooklaw10_CostTells.j1, if_true]
  rw [merge_some _ _ _ (by omega), rsort_some _ _ (by omega)]
  simp only [Option.bind_some, if_true, rmerge_some, sort_some, group_some, rgroup_some, beq_self_eq_true]
end Go.Proofs.Ytogancfhameniaa.Pure
