/- Functions of the program as plain Lean functions, and proofs that the calls do what these say; written for this claim by a program of the session (wip/tools/mkprint.py), checked by Lean. -/
import Derived.Test.YtkidnomkfdnciaaAllx0
import Derived.Test.YtkidnomkfdnciaaBk
import Derived.Test.YtkidnomkfdnciaaAllx2
namespace Go.Proofs.Ytkidnomkfdnciaa.All
open Go.RowKit Go.Proofs.YtkidnomkfdnciaaW.PrintWords Go.Proofs.YtkidnomkfdnciaaW.PrintLast Go.Proofs.YtkidnomkfdnciaaW.PrintMore
attribute [local go_sem] max2_int min2_int max_two min_two max_three min_three max_four min_four   -- for this text's walks alone
set_option linter.unusedVariables false
set_option linter.unusedSimpArgs false

attribute [local go_sem high] eqA68
/-! ### roadbooklaw20_place: function 60 -/
def roadbooklaw20_place.l0 : Nat → List (S68) → Int → Int → Int → Int → Option (Int)
  | 0, _, _, _, _, _ => none
  | k + 1, x0, x5, x12000, x12001, x12002 => if x5 < (x0.length : Int) then (if 0 ≤ x5 then (if (((rd_T68 x0 x5).f0) == x12000 && (((rd_T68 x0 x5).f1) == x12001 && (((rd_T68 x0 x5).f2) == x12002))) = true then (some x5) else (roadbooklaw20_place.l0 k x0 (wrap64 (x5 + 1)) x12000 x12001 x12002)) else (none)) else (some (-1))
def roadbooklaw20_place.f (k : Nat) (l0 : List (S68)) (a1_0 : Int) (a1_1 : Int) (a1_2 : Int) : Option (Int) := roadbooklaw20_place.l0 k l0 0 a1_0 a1_1 a1_2
set_option maxHeartbeats 8000000 in
set_option maxRecDepth 100000 in
theorem roadbooklaw20_place.calls (k : Nat) (A0 : Option Addr) (c0 : Nat) (l0 : List (S68)) (a1_0 : Int) (a1_1 : Int) (a1_2 : Int) (r : Int) (w : World) (hr0 : Kd.C k68 w A0 l0.length l0) (hc0 : l0.length ≤ c0) (h : roadbooklaw20_place.f k l0 a1_0 a1_1 a1_2 = some r) :
    Calls Try.prog 60 #[.slice A0 l0.length c0, .agg #[.int .i64 a1_0, .int .i64 a1_1, .int .i64 a1_2]] w fun e w' => e = .returned (.int .i64 r) ∧ Below w.heap.size w w' := by
  have hu68 := Try.underlying68
  have HR0 := Aside0.mk hr0
  have HC0 := Aside0.mk hc0
  clear hr0 hc0
  have HB := Aside0.mk (Below.refl w.heap.size w)
  have H : (roadbooklaw20_place.l0 k l0 0 a1_0 a1_1 a1_2) = some r := h
  clear h
  have H' := Aside0.mk H
  clear H
  go_enter Try.func60, Try.ntmps60
  go_wp2_with (((with_reducible refine gate_dst (N := 3) rfl ?_); refine box_event ?hg (N := 3) ?hd (cs := #[.int .i64 a1_0, .int .i64 a1_1, .int .i64 a1_2]) (t := 68) ?hr ?_; (case hd => rfl); (case hg => rfl); (case hr => first | (go_simp; done) ); intro gb11 hg w3 hbox hb; have n0_ := Aside0.mk (below_step (by repeat ((with_reducible first | exact HB.out ))) hb); have n1_ := Aside0.mk (hbox); have n2_ := Aside0.mk ((by rw [hg]; exact (below_size (by repeat ((with_reducible first | exact HB.out )))) : w.heap.size ≤ gb11)); have n3_ := Aside0.mk ((by rw [hg]; exact (below_size (by repeat ((with_reducible first | exact HB.out )))) : w.heap.size ≤ gb11)); clear HB; have HB := n0_; have BK11 := n1_; have GW11 := n2_; have GE11 := n3_; clear n0_ n1_ n2_ n3_; clear hb hbox hg))
  repeat (go_quiet (((with_reducible refine gate_dst (N := 3) rfl ?_); refine box_event ?hg (N := 3) ?hd (cs := #[.int .i64 a1_0, .int .i64 a1_1, .int .i64 a1_2]) (t := 68) ?hr ?_; (case hd => rfl); (case hg => rfl); (case hr => first | (go_simp; done) | (go_simp; rfl)); intro gb11 hg w3 hbox hb; have n0_ := Aside0.mk (below_step (by repeat (first | (with_reducible first | exact HB.out | apply below_alloc | apply pw_below_drewN | apply below_drew1) | exact HB.out)) hb); have n1_ := Aside0.mk (hbox); have n2_ := Aside0.mk ((by rw [hg]; exact (below_size (by repeat (first | (with_reducible first | exact HB.out | apply below_alloc | apply pw_below_drewN | apply below_drew1) | exact HB.out))) : w.heap.size ≤ gb11)); have n3_ := Aside0.mk ((by rw [hg]; exact (below_size (by repeat (first | (with_reducible first | exact HB.out | apply below_alloc | apply pw_below_drewN | apply below_drew1) | exact HB.out))) : w.heap.size ≤ gb11)); clear HB; have HB := n0_; have BK11 := n1_; have GW11 := n2_; have GE11 := n3_; clear n0_ n1_ n2_ n3_; clear hb hbox hg)); try go_wp2_with (((with_reducible refine gate_dst (N := 3) rfl ?_); refine box_event ?hg (N := 3) ?hd (cs := #[.int .i64 a1_0, .int .i64 a1_1, .int .i64 a1_2]) (t := 68) ?hr ?_; (case hd => rfl); (case hg => rfl); (case hr => first | (go_simp; done) | (go_simp; rfl)); intro gb11 hg w3 hbox hb; have n0_ := Aside0.mk (below_step (by repeat (first | (with_reducible first | exact HB.out | apply below_alloc | apply pw_below_drewN | apply below_drew1) | exact HB.out)) hb); have n1_ := Aside0.mk (hbox); have n2_ := Aside0.mk ((by rw [hg]; exact (below_size (by repeat (first | (with_reducible first | exact HB.out | apply below_alloc | apply pw_below_drewN | apply below_drew1) | exact HB.out))) : w.heap.size ≤ gb11)); have n3_ := Aside0.mk ((by rw [hg]; exact (below_size (by repeat (first | (with_reducible first | exact HB.out | apply below_alloc | apply pw_below_drewN | apply below_drew1) | exact HB.out))) : w.heap.size ≤ gb11)); clear HB; have HB := n0_; have BK11 := n1_; have GW11 := n2_; have GE11 := n3_; clear n0_ n1_ n2_ n3_; clear hb hbox hg)))
  go_loopg [5] k (fun kq v5 w' => ∃ (x5_1 : Int), v5 = .int .i64 x5_1 ∧ Aside0 (roadbooklaw20_place.l0 kq l0 x5_1 a1_0 a1_1 a1_2 = some r) ∧ Aside0 (kq ≤ k) ∧ Aside0 (w'.heap[gb11]? = some (.cells #[.int .i64 a1_0, .int .i64 a1_1, .int .i64 a1_2] 68 (0, 0))) ∧ Aside0 (Below w.heap.size w w'))
  case atStart => exact ⟨(0), (by rfl), H', ⟨Nat.le_refl _⟩, ⟨by (with_reducible repeat (first | refine blk_drewN ?_ _ | refine blk_drew ?_ | refine blk_alloc ?_ _)); exact BK11.out⟩, ⟨by repeat ((with_reducible first | exact HB.out ))⟩⟩
  case round =>
    clear H'
    obtain ⟨x5_1, rfl, HA, HK1, BK11, HB⟩ := hrel
    cases gk with
    | zero => exact absurd HA.out (by simp [roadbooklaw20_place.l0])
    | succ k1 =>
      have H := HA.out
      clear HA
      simp only [roadbooklaw20_place.l0] at H
      by_cases c4 : x5_1 < (l0.length : Int)
      · rw [if_pos c4] at H
        have c4b0 : decide (x5_1 < (l0.length : Int)) = true := decide_eq_true c4
        clear c4
        by_cases c5 : 0 ≤ x5_1
        · rw [if_pos c5] at H
          have c5b0 : decide (0 ≤ x5_1) = true := decide_eq_true c5
          clear c5
          by_cases c6 : (((rd_T68 l0 x5_1).f0) == a1_0 && (((rd_T68 l0 x5_1).f1) == a1_1 && (((rd_T68 l0 x5_1).f2) == a1_2))) = true
          · rw [if_pos c6] at H
            have c6b0 : (((rd_T68 l0 x5_1).f0) == a1_0 && (((rd_T68 l0 x5_1).f1) == a1_1 && (((rd_T68 l0 x5_1).f2) == a1_2))) = true := c6
            (try (have c6b1 : decide (((rd_T68 l0 x5_1).f0) = a1_0 && (((rd_T68 l0 x5_1).f1) == a1_1 && (((rd_T68 l0 x5_1).f2) == a1_2))) = true := by simpa using c6))
            (try (have c6b2 : (((rd_T68 l0 x5_1).f0) == a1_0 && (((rd_T68 l0 x5_1).f1) == a1_1 && (((rd_T68 l0 x5_1).f2) == a1_2))) = true := by simpa using c6))
            clear c6
            obtain rfl := Option.some.inj H
            have p12 : 0 ≤ (x5_1 : Int) := of_decide_eq_true (by (with_reducible assumption))
            have q12 : x5_1 < (l0.length : Int) := of_decide_eq_true (by (with_reducible assumption))
            obtain ⟨ad12, e12, hx12_0, hx12_1, hx12_2⟩ := at_T68 HR0.out x5_1 p12 q12
            cases e12
            replace hx12_0 := (HB.out.cell (World.block_lt_of_cell? w _ hx12_0)).trans hx12_0
            replace hx12_1 := (HB.out.cell (World.block_lt_of_cell? w _ hx12_1)).trans hx12_1
            replace hx12_2 := (HB.out.cell (World.block_lt_of_cell? w _ hx12_2)).trans hx12_2
            replace p12 := eq_true p12
            replace q12 := eq_true q12
            obtain ⟨hcz7_0, hcz7_1, hcz7_2, hfz7_0, hfz7_1, hfz7_2⟩ := bk3 BK11.out
            go_wp2
            repeat (go_quiet (fail); try go_wp2)
            go_ret
            exact ⟨by rfl, by repeat ((with_reducible first | exact HB.out | apply pw_below_drewN ))⟩
          · rw [if_neg c6] at H
            have c6b0 : (((rd_T68 l0 x5_1).f0) == a1_0 && (((rd_T68 l0 x5_1).f1) == a1_1 && (((rd_T68 l0 x5_1).f2) == a1_2))) = false := by simpa using c6
            (try (have c6b1 : decide (((rd_T68 l0 x5_1).f0) = a1_0 && (((rd_T68 l0 x5_1).f1) == a1_1 && (((rd_T68 l0 x5_1).f2) == a1_2))) = false := by simpa using c6))
            (try (have c6b2 : (((rd_T68 l0 x5_1).f0) == a1_0 && (((rd_T68 l0 x5_1).f1) == a1_1 && (((rd_T68 l0 x5_1).f2) == a1_2))) = false := by simpa using c6))
            (try (have c6b3 : ¬ (((rd_T68 l0 x5_1).f0) = a1_0 && (((rd_T68 l0 x5_1).f1) == a1_1 && (((rd_T68 l0 x5_1).f2) == a1_2))) := by simpa using c6))
            clear c6
            have H' := Aside0.mk H
            clear H
            have p12 : 0 ≤ (x5_1 : Int) := of_decide_eq_true (by (with_reducible assumption))
            have q12 : x5_1 < (l0.length : Int) := of_decide_eq_true (by (with_reducible assumption))
            obtain ⟨ad12, e12, hx12_0, hx12_1, hx12_2⟩ := at_T68 HR0.out x5_1 p12 q12
            cases e12
            replace hx12_0 := (HB.out.cell (World.block_lt_of_cell? w _ hx12_0)).trans hx12_0
            replace hx12_1 := (HB.out.cell (World.block_lt_of_cell? w _ hx12_1)).trans hx12_1
            replace hx12_2 := (HB.out.cell (World.block_lt_of_cell? w _ hx12_2)).trans hx12_2
            replace p12 := eq_true p12
            replace q12 := eq_true q12
            obtain ⟨hcz8_0, hcz8_1, hcz8_2, hfz8_0, hfz8_1, hfz8_2⟩ := bk3 BK11.out
            go_wp2
            repeat (go_quiet (fail); try go_wp2)
            go_roundg k1
            case measure => have := HK1.out; omega
            case rel => exact ⟨(wrap64 (x5_1 + 1)), (by rfl), H', ⟨by have := HK1.out; omega⟩, ⟨by (with_reducible repeat (refine blk_drewN ?_ _)); exact BK11.out⟩, ⟨by repeat ((with_reducible first | exact HB.out | apply pw_below_drewN ))⟩⟩
        · rw [if_neg c5] at H
          exact absurd H (by simp)
      · rw [if_neg c4] at H
        have c4b0 : decide (x5_1 < (l0.length : Int)) = false := decide_eq_false c4
        clear c4
        obtain rfl := Option.some.inj H
        go_wp2
        repeat (go_quiet (fail); try go_wp2)
        go_ret
        exact ⟨by rfl, by repeat ((with_reducible first | exact HB.out ))⟩

end Go.Proofs.Ytkidnomkfdnciaa.All
