/- Functions of the program as plain Lean functions, and proofs that the calls do what these say; written for this claim by a program of the session (wip/tools/mkprint.py), checked by Lean. -/
import Derived.Test.YtkidnomkfdnciaaAllx0
import Derived.Test.YtkidnomkfdnciaaBk
namespace Go.Proofs.Ytkidnomkfdnciaa.All
open Go.RowKit Go.Proofs.YtkidnomkfdnciaaW.PrintWords Go.Proofs.YtkidnomkfdnciaaW.PrintLast Go.Proofs.YtkidnomkfdnciaaW.PrintMore
attribute [local go_sem] max2_int min2_int max_two min_two max_three min_three max_four min_four   -- for this text's walks alone
set_option linter.unusedVariables false
set_option linter.unusedSimpArgs false

/-! ### calls_there: function 89 -/
def calls_there.f (a0 : Int) : Option (Int × Int) := if a0 = (-1) then (some ((-1), 2)) else (some (a0, 0))
set_option maxHeartbeats 8000000 in
set_option maxRecDepth 100000 in
theorem calls_there.calls (a0 : Int) (r1 : Int) (r2 : Int) (w : World) (h : calls_there.f a0 = some (r1, r2)) :
    Calls Try.prog 89 #[.int .i64 a0] w fun e w' => e = .returned (.agg #[.int .i64 r1, .int .i64 r2]) ∧ Below w.heap.size w w' := by
  have hu73 := Try.underlying73
  have HB := Aside0.mk (Below.refl w.heap.size w)
  have H : (if a0 = (-1) then (some ((-1), 2)) else (some (a0, 0))) = some (r1, r2) := h
  clear h
  by_cases c2 : a0 = (-1)
  · rw [if_pos c2] at H
    have c2b0 : (a0 == (-1)) = true := beq_iff_eq.mpr c2
    have c2b1 : (a0 != (-1)) = false := bne_eq_false_iff_eq.mpr c2
    clear c2
    simp only [Option.some.injEq, Prod.mk.injEq] at H
    obtain ⟨rfl, rfl⟩ := H
    go_enter Try.func89, Try.ntmps89
    go_wp2_with (((with_reducible refine gate_dst (N := 2) rfl ?_); refine box_event ?hg (N := 2) ?hd (cs := #[.int .i64 0, .int .i64 0]) (t := 73) ?hr ?_; (case hd => rfl); (case hg => rfl); (case hr => first | (go_simp; done) ); intro gb11 hg w3 hbox hb; have BK11 := Aside0.mk (hbox); have GW11 := Aside0.mk ((by rw [hg]; exact (below_size (by repeat ((with_reducible first | exact HB.out )))) : w.heap.size ≤ gb11)); have GE11 := Aside0.mk ((by rw [hg]; exact (below_size (by repeat ((with_reducible first | exact HB.out )))) : w.heap.size ≤ gb11)); replace HB := Aside0.mk (below_step (by repeat ((with_reducible first | exact HB.out ))) hb); clear hb hbox hg; obtain ⟨hcz4_0, hcz4_1, hfz4_0, hfz4_1⟩ := bk2 BK11.out))
    refine bodyPost_ret (results_cell_row rfl _ _ gb11 73 #[.int .i64 (-1), .int .i64 2] (0, 0) _ rfl (by (with_reducible repeat (first | refine blk_drewN ?_ _ | refine blk_drew ?_ | refine blk_alloc ?_ _)); refine blk_put (cs := #[.int .i64 (-1), .int .i64 0]) ?_ 1 _ rfl; (with_reducible repeat (first | refine blk_drewN ?_ _ | refine blk_drew ?_ | refine blk_alloc ?_ _)); refine blk_put (cs := #[.int .i64 0, .int .i64 0]) ?_ 0 _ rfl; (with_reducible repeat (first | refine blk_drewN ?_ _ | refine blk_drew ?_ | refine blk_alloc ?_ _)); exact BK11.out) Try.underlying73 rfl (by kernel_rfl)) rfl ?_
    exact ⟨by rfl, by repeat ((with_reducible first | exact HB.out | refine below_set ?_ GE11.out))⟩
  · rw [if_neg c2] at H
    have c2b0 : (a0 == (-1)) = false := beq_eq_false_iff_ne.mpr c2
    have c2b1 : (a0 != (-1)) = true := bne_iff_ne.mpr c2
    simp only [Option.some.injEq, Prod.mk.injEq] at H
    obtain ⟨rfl, rfl⟩ := H
    go_enter Try.func89, Try.ntmps89
    go_wp2_with (((with_reducible refine gate_dst (N := 2) rfl ?_); refine box_event ?hg (N := 2) ?hd (cs := #[.int .i64 0, .int .i64 0]) (t := 73) ?hr ?_; (case hd => rfl); (case hg => rfl); (case hr => first | (go_simp; done) ); intro gb11 hg w5 hbox hb; have BK11 := Aside0.mk (hbox); have GW11 := Aside0.mk ((by rw [hg]; exact (below_size (by repeat ((with_reducible first | exact HB.out )))) : w.heap.size ≤ gb11)); have GE11 := Aside0.mk ((by rw [hg]; exact (below_size (by repeat ((with_reducible first | exact HB.out )))) : w.heap.size ≤ gb11)); replace HB := Aside0.mk (below_step (by repeat ((with_reducible first | exact HB.out ))) hb); clear hb hbox hg; obtain ⟨hcz6_0, hcz6_1, hfz6_0, hfz6_1⟩ := bk2 BK11.out))
    refine bodyPost_ret (results_cell_row rfl _ _ gb11 73 #[.int .i64 a0, .int .i64 0] (0, 0) _ rfl (by (with_reducible repeat (first | refine blk_drewN ?_ _ | refine blk_drew ?_ | refine blk_alloc ?_ _)); refine blk_put (cs := #[.int .i64 a0, .int .i64 0]) ?_ 1 _ rfl; (with_reducible repeat (first | refine blk_drewN ?_ _ | refine blk_drew ?_ | refine blk_alloc ?_ _)); refine blk_put (cs := #[.int .i64 0, .int .i64 0]) ?_ 0 _ rfl; (with_reducible repeat (first | refine blk_drewN ?_ _ | refine blk_drew ?_ | refine blk_alloc ?_ _)); exact BK11.out) Try.underlying73 rfl (by kernel_rfl)) rfl ?_
    exact ⟨by rfl, by repeat ((with_reducible first | exact HB.out | refine below_set ?_ GE11.out))⟩

end Go.Proofs.Ytkidnomkfdnciaa.All
