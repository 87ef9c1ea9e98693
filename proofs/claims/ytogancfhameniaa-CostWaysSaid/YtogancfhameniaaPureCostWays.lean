/- For any numbers of rows: merging costs no more than hashing, nesting against one row costs as much as scanning, against none nothing, nest and merge are the same either way round, sorting costs no less than scanning, and grouping costs as told. No further condition. -/
import Derived.Test.YtogancfhameniaaPlain
namespace Go.Proofs.Ytogancfhameniaa.Pure
open Go.RowKit Go.Proofs.Ytogancfhameniaa.Cost Go.Proofs.YtogancfhameniaaW.PrintWords Go.Proofs.YtogancfhameniaaW.PrintLast Go.Proofs.YtogancfhameniaaW.PrintMore

theorem sort_scan (a : Int) : rowsS a ≤ sortS a := by
  have h := rowsS_bd a
  unfold sortS
  by_cases h0 : rowsS a = 0
  · rw [h0]; decide
  · have h1 := bl_pos (x := rowsS a) (by omega) h.2
    have h2 : rowsS a * 1 ≤ rowsS a * bl (rowsS a) := Int.mul_le_mul_of_nonneg_left h1 h.1
    omega
theorem CostWays : roadbooklaw10_CostWays.Pure := by
  intro a b wa wb
  have ha := rowsS_bd a
  have hb := rowsS_bd b
  have r1 : rowsS 1 = 1 := by decide
  have r0 : rowsS 0 = 0 := by decide
  have hss := sort_scan a
  refine ⟨10, ?_⟩
  unfold roadbooklaw10_CostWays.f
  rw [awake_some _ (by omega), merge_some _ _ _ (by omega), hash_some _ _ _ (by omega), merge_some _ _ _ (by omega)]
  simp only [Option.bind_some, if_true, nest_some, scan_some]
  rw [if_neg (by unfold mergeS hashS; omega), if_pos (by unfold nestS; rw [r1]; omega), if_pos (by unfold nestS; rw [r0, Int.mul_zero]; decide),
    if_pos (by unfold nestS; rw [Int.mul_comm]), show (mergeS a b != mergeS b a) = false from by rw [bne_eq_false_iff_eq]; unfold mergeS; omega]
  simp only [roadbooklaw10_CostWays.j0, Bool.false_eq_true, if_false]
  simp only [roadbooklaw10_a1.f, sort_some, scan_some, group_some, Option.bind_some]
  rw [if_pos (by omega), add_two _ _ 9 (by omega)]
  simp only [Option.bind_some]
  rw [if_pos (by unfold groupS clampS; simp only [if_true]; omega)]
  simp [groupS]
end Go.Proofs.Ytogancfhameniaa.Pure
