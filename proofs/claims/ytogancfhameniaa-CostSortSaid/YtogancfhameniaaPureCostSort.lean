/- For all numbers of rows of at most 2^39, sorting two parts costs no more than sorting all of it, and twice as many rows cost twice as much and one more for each row. No further condition. -/
import Derived.Test.YtogancfhameniaaPlain
namespace Go.Proofs.Ytogancfhameniaa.Pure
open Go.RowKit Go.Proofs.Ytogancfhameniaa.Cost Go.Proofs.YtogancfhameniaaW.PrintWords Go.Proofs.YtogancfhameniaaW.PrintLast Go.Proofs.YtogancfhameniaaW.PrintMore

theorem sort_parts {a b : Int} (ha : 0 ≤ a) (hA : a ≤ 549755813888) (hb : 0 ≤ b) (hB : b ≤ 549755813888) : sortS a + sortS b ≤ sortS (a + b) := by
  have e1 : rowsS a = a := by unfold rowsS; omega
  have e2 : rowsS b = b := by unfold rowsS; omega
  have e3 : rowsS (a + b) = a + b := by unfold rowsS; omega
  unfold sortS
  rw [e1, e2, e3, Int.add_mul]
  have h1 : a * bl a ≤ a * bl (a + b) := Int.mul_le_mul_of_nonneg_left (bl_mono (by omega) (by omega)) ha
  have h2 : b * bl b ≤ b * bl (a + b) := Int.mul_le_mul_of_nonneg_left (bl_mono (by omega) (by omega)) hb
  omega
theorem sort_twice {a : Int} (ha : 0 ≤ a) (hA : a ≤ 549755813888) : sortS (2 * a) = sortS a + sortS a + a + a := by
  have e1 : rowsS a = a := by unfold rowsS; omega
  have e3 : rowsS (2 * a) = 2 * a := by unfold rowsS; omega
  unfold sortS
  rw [e1, e3]
  by_cases h : a = 0
  · subst h; rfl
  · rw [bl_double (by omega) hA, Int.mul_add, Int.mul_one, Int.mul_assoc, Int.two_mul]
    omega
theorem CostSort : roadbooklaw10_CostSort.Pure := by
  intro a b wa wb
  refine ⟨10, ?_⟩
  unfold roadbooklaw10_CostSort.f
  rw [awake_some _ (by omega)]
  simp only [Option.bind_some, if_true]
  have J : ∀ x, roadbooklaw10_CostSort.j0 10 a b true true = x → x = some true := by intro x h; rw [← h]; simp [roadbooklaw10_CostSort.j0]
  by_cases h1 : a < 0
  · rw [if_pos h1]; exact J _ rfl
  rw [if_neg h1]
  by_cases h2 : b < 0
  · rw [if_pos h2]; exact J _ rfl
  rw [if_neg h2]
  by_cases h3 : a > 549755813888
  · rw [if_pos h3]; exact J _ rfl
  rw [if_neg h3]
  by_cases h4 : b > 549755813888
  · rw [decide_eq_true h4]; exact J _ rfl
  rw [decide_eq_false h4]
  simp only [roadbooklaw10_CostSort.j0, Bool.false_eq_true, if_false]
  have ba := sortS_bd a
  have bb := sortS_bd b
  have hp := sort_parts (a := a) (b := b) (by omega) (by omega) (by omega) (by omega)
  have ht := sort_twice (a := a) (by omega) (by omega)
  rw [wrap_in (x := a + b) (by omega) (by omega), wrap_in (x := 2 * a) (by omega) (by omega)]
  simp only [sort_some, Option.bind_some]
  rw [add_two _ _ 9 (by omega), add_some _ 9 (by simp) (by simp)]
  simp only [Option.bind_some]
  rw [if_pos (by unfold clampS; omega)]
  simp only [addS, csum_cons, csum_nil]
  rw [clampS_id (n := sortS a) (by omega) (by omega), clampS_id (n := a) (by omega) (by omega)]
  congr 1
  rw [beq_iff_eq]
  omega
end Go.Proofs.Ytogancfhameniaa.Pure
