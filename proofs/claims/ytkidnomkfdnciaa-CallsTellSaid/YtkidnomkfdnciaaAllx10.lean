/- Functions of the program as plain Lean functions, and proofs that the calls do what these say; written for this claim by a program of the session (wip/tools/mkprint.py), checked by Lean. -/
import Derived.Test.YtkidnomkfdnciaaSets2
import Derived.Test.YtkidnomkfdnciaaBk
import Derived.Lib.Hide
namespace Go.Proofs.Ytkidnomkfdnciaa.All
open Go.RowKit Go.Proofs.YtkidnomkfdnciaaW.PrintWords Go.Proofs.YtkidnomkfdnciaaW.PrintLast Go.Proofs.YtkidnomkfdnciaaW.PrintMore
attribute [local go_sem] max2_int min2_int max_two min_two max_three min_three max_four min_four
set_option linter.unusedVariables false
set_option linter.unusedSimpArgs false
attribute [local go_sem high] eqA48
def memo_node.f (l0_0 : List (S48)) (l0_1 : List Int) (l0_2 : List Int) (a1_0 : Bool) (a1_1 : Int) (a1_2 : Int) (a1_3 : Int) : Option (Bool) := if a1_0 = true then (if a1_1 = 0 then ((memo_is.f l0_0 l0_1 l0_2 a1_2).bind fun t13 => (if t13 = true then ((memo_is.f l0_0 l0_1 l0_2 a1_3).bind fun t14 => (some t14)) else (some false))) else (some false)) else (if ((a1_2 == 0 && (a1_3 == 0))) = true then (if a1_1 ≥ 0 then (some (decide (a1_1 < 4))) else (some false)) else (some false))
set_option maxHeartbeats 8000000 in
set_option maxRecDepth 100000 in
theorem memo_node.calls (A0_0 : Option Addr) (c0_0 : Nat) (l0_0 : List (S48)) (A0_1 : Option Addr) (c0_1 : Nat) (l0_1 : List Int) (A0_2 : Option Addr) (c0_2 : Nat) (l0_2 : List Int) (a1_0 : Bool) (a1_1 : Int) (a1_2 : Int) (a1_3 : Int) (r : Bool) (w : World) (hr0_0 : Kd.C k48 w A0_0 l0_0.length l0_0) (hc0_0 : l0_0.length ≤ c0_0) (hr0_1 : Kd.C (Kd.int .i64) w A0_1 l0_1.length l0_1) (hc0_1 : l0_1.length ≤ c0_1) (hr0_2 : Kd.C (Kd.int .i64) w A0_2 l0_2.length l0_2) (hc0_2 : l0_2.length ≤ c0_2) (h : memo_node.f l0_0 l0_1 l0_2 a1_0 a1_1 a1_2 a1_3 = some r) :
  Calls Try.prog 78 #[.agg #[.slice A0_0 l0_0.length c0_0, .slice A0_1 l0_1.length c0_1, .slice A0_2 l0_2.length c0_2], .agg #[.bool a1_0, .int .i64 a1_1, .int .i64 a1_2, .int .i64 a1_3]] w fun e w' => e = .returned (.bool r) ∧ Below w.heap.size w w' := by
 have hu38 := Try.underlying38
 have hu48 := Try.underlying48
 have HR0_0 := Aside0.mk hr0_0
 have HC0_0 := Aside0.mk hc0_0
 clear hr0_0 hc0_0
 have HR0_1 := Aside0.mk hr0_1
 have HC0_1 := Aside0.mk hc0_1
 clear hr0_1 hc0_1
 have HR0_2 := Aside0.mk hr0_2
 have HC0_2 := Aside0.mk hc0_2
 clear hr0_2 hc0_2
 have HB := Aside0.mk (Below.refl w.heap.size w)
 have H : (if a1_0 = true then (if a1_1 = 0 then ((memo_is.f l0_0 l0_1 l0_2 a1_2).bind fun t13 => (if t13 = true then ((memo_is.f l0_0 l0_1 l0_2 a1_3).bind fun t14 => (some t14)) else (some false))) else (some false)) else (if ((a1_2 == 0 && (a1_3 == 0))) = true then (if a1_1 ≥ 0 then (some (decide (a1_1 < 4))) else (some false)) else (some false))) = some r := h
 clear h
 by_cases c3 : a1_0 = true
 ·subst c3
  have H1 : (if a1_1 = 0 then ((memo_is.f l0_0 l0_1 l0_2 a1_2).bind fun t13 => (if t13 = true then ((memo_is.f l0_0 l0_1 l0_2 a1_3).bind fun t14 => (some t14)) else (some false))) else (some false)) = some r := by rw [if_pos rfl] at H; exact H
  clear H
  have H := H1
  clear H1
  by_cases c4 : a1_1 = 0
  ·rw [if_pos c4] at H
   have c4b0 : (a1_1 == 0) = true := beq_iff_eq.mpr c4
   have c4b1 : (a1_1 != 0) = false := bne_eq_false_iff_eq.mpr c4
   clear c4
   replace H := Option.bind_eq_some_iff.mp H
   obtain ⟨t13, A50, H⟩ := H
   replace H : (if t13 = true then ((memo_is.f l0_0 l0_1 l0_2 a1_3).bind fun t14 => (some t14)) else (some false)) = some r := H
   have A5 := Aside0.mk A50
   clear A50
   by_cases c6 : t13 = true
   ·subst c6
    have H1 : ((memo_is.f l0_0 l0_1 l0_2 a1_3).bind fun t14 => (some t14)) = some r := by rw [if_pos rfl] at H; exact H
    clear H
    have H := H1
    clear H1
    replace H := Option.bind_eq_some_iff.mp H
    obtain ⟨t14, A70, H⟩ := H
    replace H : (some t14) = some r := H
    have A7 := Aside0.mk A70
    clear A70
    obtain rfl := Option.some.inj H
    go_enter Try.func78, Try.ntmps78
    go_wp2_with (first | ((with_reducible refine gate_dst (N := 2) rfl ?_); refine box_event ?hg (N := 2) ?hd (cs := #[.slice A0_0 l0_0.length c0_0, .slice A0_1 l0_1.length c0_1, .slice A0_2 l0_2.length c0_2]) (t := 38) ?hr ?_; (case hd => rfl); (case hg => rfl); (case hr => first | (go_simp; done) ); intro gb11 hg w8 hbox hb; have n0_ := Aside0.mk (below_step (by repeat ((with_reducible first | exact HB.out ))) hb); have n1_ := Aside0.mk (hbox); have n2_ := Aside0.mk ((by rw [hg]; exact (below_size (by repeat ((with_reducible first | exact HB.out )))) : w.heap.size ≤ gb11)); have n3_ := Aside0.mk ((by rw [hg]; exact (below_size (by repeat ((with_reducible first | exact HB.out )))) : w.heap.size ≤ gb11)); clear HB; have HB := n0_; have BK11 := n1_; have GW11 := n2_; have GE11 := n3_; clear n0_ n1_ n2_ n3_; clear hb hbox hg) | ((with_reducible refine gate_dst (N := 3) rfl ?_); refine box_event ?hg (N := 3) ?hd (cs := #[.bool true, .int .i64 a1_1, .int .i64 a1_2, .int .i64 a1_3]) (t := 48) ?hr ?_; (case hd => rfl); (case hg => rfl); (case hr => first | (go_simp; done) ); intro gb12 hg w9 hbox hb; have n0_ := Aside0.mk (blk_below (g := gb11) (o := .cells #[.slice A0_0 l0_0.length c0_0, .slice A0_1 l0_1.length c0_1, .slice A0_2 l0_2.length c0_2] 38 (0, 0)) (by (with_reducible repeat (first | refine blk_drewN ?_ _ | refine blk_drew ?_ | refine blk_alloc ?_ _)); exact BK11.out) hb); have n1_ := Aside0.mk (below_step (by repeat ((with_reducible first | exact HB.out ))) hb); have n2_ := Aside0.mk (hbox); have n3_ := Aside0.mk ((by rw [hg]; exact (below_size (by repeat ((with_reducible first | exact HB.out )))) : w.heap.size ≤ gb12)); have n4_ := Aside0.mk ((by rw [hg]; exact (below_size (by repeat ((with_reducible first | exact HB.out )))) : w.heap.size ≤ gb12)); have n5_ := Aside0.mk ((by rw [hg]; exact Nat.ne_of_lt (blk_lt (g := gb11) (o := .cells #[.slice A0_0 l0_0.length c0_0, .slice A0_1 l0_1.length c0_1, .slice A0_2 l0_2.length c0_2] 38 (0, 0)) (by (with_reducible repeat (first | refine blk_drewN ?_ _ | refine blk_drew ?_ | refine blk_alloc ?_ _)); exact BK11.out)) : gb11 ≠ gb12)); have n6_ := Aside0.mk ((by rw [hg]; exact Nat.ne_of_gt (blk_lt (g := gb11) (o := .cells #[.slice A0_0 l0_0.length c0_0, .slice A0_1 l0_1.length c0_1, .slice A0_2 l0_2.length c0_2] 38 (0, 0)) (by (with_reducible repeat (first | refine blk_drewN ?_ _ | refine blk_drew ?_ | refine blk_alloc ?_ _)); exact BK11.out)) : gb12 ≠ gb11)); clear BK11; clear HB; have BK11 := n0_; have HB := n1_; have BK12 := n2_; have GW12 := n3_; have GE12 := n4_; have NB11_12 := n5_; have NB12_11 := n6_; clear n0_ n1_ n2_ n3_ n4_ n5_ n6_; clear hb hbox hg; have hnb10 := NB12_11.out; have hnc10 := NB11_12.out; obtain ⟨hcz11_0, hcz11_1, hcz11_2, hcz11_3, hfz11_0, hfz11_1, hfz11_2, hfz11_3⟩ := bk4 BK12.out; obtain ⟨hcz12_0, hcz12_1, hcz12_2, hfz12_0, hfz12_1, hfz12_2⟩ := bk3 BK11.out) | (go_at_call 74; (with_reducible refine (memo_is.calls _ _ l0_0 _ _ l0_1 _ _ l0_2 a1_2 true _ ?side1 ?side2 ?side3 ?side4 ?side5 ?side6 A5.out).mono ?_); (case side1 => repeat (exact (Kd.C_below HR0_0.out HB.out))); (case side2 => exact HC0_0.out); (case side3 => repeat (exact (Kd.C_below HR0_1.out HB.out))); (case side4 => exact HC0_1.out); (case side5 => repeat (exact (Kd.C_below HR0_2.out HB.out))); (case side6 => exact HC0_2.out); rintro e w13 ⟨rfl, hb⟩; have n0_ := Aside0.mk (blk_below (g := gb11) (o := .cells #[.slice A0_0 l0_0.length c0_0, .slice A0_1 l0_1.length c0_1, .slice A0_2 l0_2.length c0_2] 38 (0, 0)) (by (with_reducible repeat (first | refine blk_drewN ?_ _ | refine blk_drew ?_ | refine blk_alloc ?_ _)); exact BK11.out) hb); have n1_ := Aside0.mk (blk_below (g := gb12) (o := .cells #[.bool true, .int .i64 a1_1, .int .i64 a1_2, .int .i64 a1_3] 48 (0, 0)) (by (with_reducible repeat (first | refine blk_drewN ?_ _ | refine blk_drew ?_ | refine blk_alloc ?_ _)); exact BK12.out) hb); have n2_ := Aside0.mk (below_step (by repeat ((with_reducible first | exact HB.out ))) hb); clear BK11; clear BK12; clear HB; have BK11 := n0_; have BK12 := n1_; have HB := n2_; clear n0_ n1_ n2_; (try clear hb); obtain ⟨hcz14_0, hcz14_1, hcz14_2, hfz14_0, hfz14_1, hfz14_2⟩ := bk3 BK11.out; obtain ⟨hcz15_0, hcz15_1, hcz15_2, hcz15_3, hfz15_0, hfz15_1, hfz15_2, hfz15_3⟩ := bk4 BK12.out) | (go_at_call 74; (with_reducible refine (memo_is.calls _ _ l0_0 _ _ l0_1 _ _ l0_2 a1_3 t14 _ ?side1 ?side2 ?side3 ?side4 ?side5 ?side6 A7.out).mono ?_); (case side1 => repeat (exact (Kd.C_below HR0_0.out HB.out))); (case side2 => exact HC0_0.out); (case side3 => repeat (exact (Kd.C_below HR0_1.out HB.out))); (case side4 => exact HC0_1.out); (case side5 => repeat (exact (Kd.C_below HR0_2.out HB.out))); (case side6 => exact HC0_2.out); rintro e w16 ⟨rfl, hb⟩; have n0_ := Aside0.mk (blk_below (g := gb11) (o := .cells #[.slice A0_0 l0_0.length c0_0, .slice A0_1 l0_1.length c0_1, .slice A0_2 l0_2.length c0_2] 38 (0, 0)) (by (with_reducible repeat (first | refine blk_drewN ?_ _ | refine blk_drew ?_ | refine blk_alloc ?_ _)); exact BK11.out) hb); have n1_ := Aside0.mk (blk_below (g := gb12) (o := .cells #[.bool true, .int .i64 a1_1, .int .i64 a1_2, .int .i64 a1_3] 48 (0, 0)) (by (with_reducible repeat (first | refine blk_drewN ?_ _ | refine blk_drew ?_ | refine blk_alloc ?_ _)); exact BK12.out) hb); have n2_ := Aside0.mk (below_step (by repeat ((with_reducible first | exact HB.out ))) hb); clear BK11; clear BK12; clear HB; have BK11 := n0_; have BK12 := n1_; have HB := n2_; clear n0_ n1_ n2_; (try clear hb); ))
    go_ret
    exact ⟨by rfl, by repeat ((with_reducible first | exact HB.out ))⟩
   ·replace c6 := Bool.eq_false_iff.mpr c6
    subst c6
    have H1 : (some false) = some r := by rw [if_neg (show ¬ (false = true) by decide)] at H; exact H
    clear H
    have H := H1
    clear H1
    obtain rfl := Option.some.inj H
    go_enter Try.func78, Try.ntmps78
    go_wp2_with (first | ((with_reducible refine gate_dst (N := 2) rfl ?_); refine box_event ?hg (N := 2) ?hd (cs := #[.slice A0_0 l0_0.length c0_0, .slice A0_1 l0_1.length c0_1, .slice A0_2 l0_2.length c0_2]) (t := 38) ?hr ?_; (case hd => rfl); (case hg => rfl); (case hr => first | (go_simp; done) ); intro gb11 hg w17 hbox hb; have n0_ := Aside0.mk (below_step (by repeat ((with_reducible first | exact HB.out ))) hb); have n1_ := Aside0.mk (hbox); have n2_ := Aside0.mk ((by rw [hg]; exact (below_size (by repeat ((with_reducible first | exact HB.out )))) : w.heap.size ≤ gb11)); have n3_ := Aside0.mk ((by rw [hg]; exact (below_size (by repeat ((with_reducible first | exact HB.out )))) : w.heap.size ≤ gb11)); clear HB; have HB := n0_; have BK11 := n1_; have GW11 := n2_; have GE11 := n3_; clear n0_ n1_ n2_ n3_; clear hb hbox hg) | ((with_reducible refine gate_dst (N := 3) rfl ?_); refine box_event ?hg (N := 3) ?hd (cs := #[.bool true, .int .i64 a1_1, .int .i64 a1_2, .int .i64 a1_3]) (t := 48) ?hr ?_; (case hd => rfl); (case hg => rfl); (case hr => first | (go_simp; done) ); intro gb12 hg w18 hbox hb; have n0_ := Aside0.mk (blk_below (g := gb11) (o := .cells #[.slice A0_0 l0_0.length c0_0, .slice A0_1 l0_1.length c0_1, .slice A0_2 l0_2.length c0_2] 38 (0, 0)) (by (with_reducible repeat (first | refine blk_drewN ?_ _ | refine blk_drew ?_ | refine blk_alloc ?_ _)); exact BK11.out) hb); have n1_ := Aside0.mk (below_step (by repeat ((with_reducible first | exact HB.out ))) hb); have n2_ := Aside0.mk (hbox); have n3_ := Aside0.mk ((by rw [hg]; exact (below_size (by repeat ((with_reducible first | exact HB.out )))) : w.heap.size ≤ gb12)); have n4_ := Aside0.mk ((by rw [hg]; exact (below_size (by repeat ((with_reducible first | exact HB.out )))) : w.heap.size ≤ gb12)); have n5_ := Aside0.mk ((by rw [hg]; exact Nat.ne_of_lt (blk_lt (g := gb11) (o := .cells #[.slice A0_0 l0_0.length c0_0, .slice A0_1 l0_1.length c0_1, .slice A0_2 l0_2.length c0_2] 38 (0, 0)) (by (with_reducible repeat (first | refine blk_drewN ?_ _ | refine blk_drew ?_ | refine blk_alloc ?_ _)); exact BK11.out)) : gb11 ≠ gb12)); have n6_ := Aside0.mk ((by rw [hg]; exact Nat.ne_of_gt (blk_lt (g := gb11) (o := .cells #[.slice A0_0 l0_0.length c0_0, .slice A0_1 l0_1.length c0_1, .slice A0_2 l0_2.length c0_2] 38 (0, 0)) (by (with_reducible repeat (first | refine blk_drewN ?_ _ | refine blk_drew ?_ | refine blk_alloc ?_ _)); exact BK11.out)) : gb12 ≠ gb11)); clear BK11; clear HB; have BK11 := n0_; have HB := n1_; have BK12 := n2_; have GW12 := n3_; have GE12 := n4_; have NB11_12 := n5_; have NB12_11 := n6_; clear n0_ n1_ n2_ n3_ n4_ n5_ n6_; clear hb hbox hg; have hnb19 := NB12_11.out; have hnc19 := NB11_12.out; obtain ⟨hcz20_0, hcz20_1, hcz20_2, hcz20_3, hfz20_0, hfz20_1, hfz20_2, hfz20_3⟩ := bk4 BK12.out; obtain ⟨hcz21_0, hcz21_1, hcz21_2, hfz21_0, hfz21_1, hfz21_2⟩ := bk3 BK11.out) | (go_at_call 74; (with_reducible refine (memo_is.calls _ _ l0_0 _ _ l0_1 _ _ l0_2 a1_2 false _ ?side1 ?side2 ?side3 ?side4 ?side5 ?side6 A5.out).mono ?_); (case side1 => repeat (exact (Kd.C_below HR0_0.out HB.out))); (case side2 => exact HC0_0.out); (case side3 => repeat (exact (Kd.C_below HR0_1.out HB.out))); (case side4 => exact HC0_1.out); (case side5 => repeat (exact (Kd.C_below HR0_2.out HB.out))); (case side6 => exact HC0_2.out); rintro e w22 ⟨rfl, hb⟩; have n0_ := Aside0.mk (blk_below (g := gb11) (o := .cells #[.slice A0_0 l0_0.length c0_0, .slice A0_1 l0_1.length c0_1, .slice A0_2 l0_2.length c0_2] 38 (0, 0)) (by (with_reducible repeat (first | refine blk_drewN ?_ _ | refine blk_drew ?_ | refine blk_alloc ?_ _)); exact BK11.out) hb); have n1_ := Aside0.mk (blk_below (g := gb12) (o := .cells #[.bool true, .int .i64 a1_1, .int .i64 a1_2, .int .i64 a1_3] 48 (0, 0)) (by (with_reducible repeat (first | refine blk_drewN ?_ _ | refine blk_drew ?_ | refine blk_alloc ?_ _)); exact BK12.out) hb); have n2_ := Aside0.mk (below_step (by repeat ((with_reducible first | exact HB.out ))) hb); clear BK11; clear BK12; clear HB; have BK11 := n0_; have BK12 := n1_; have HB := n2_; clear n0_ n1_ n2_; (try clear hb); ))
    go_ret
    exact ⟨by rfl, by repeat ((with_reducible first | exact HB.out ))⟩
  ·rw [if_neg c4] at H
   have c4b0 : (a1_1 == 0) = false := beq_eq_false_iff_ne.mpr c4
   have c4b1 : (a1_1 != 0) = true := bne_iff_ne.mpr c4
   obtain rfl := Option.some.inj H
   go_enter Try.func78, Try.ntmps78
   go_wp2_with (first | ((with_reducible refine gate_dst (N := 2) rfl ?_); refine box_event ?hg (N := 2) ?hd (cs := #[.slice A0_0 l0_0.length c0_0, .slice A0_1 l0_1.length c0_1, .slice A0_2 l0_2.length c0_2]) (t := 38) ?hr ?_; (case hd => rfl); (case hg => rfl); (case hr => first | (go_simp; done) ); intro gb11 hg w23 hbox hb; have n0_ := Aside0.mk (below_step (by repeat ((with_reducible first | exact HB.out ))) hb); have n1_ := Aside0.mk (hbox); have n2_ := Aside0.mk ((by rw [hg]; exact (below_size (by repeat ((with_reducible first | exact HB.out )))) : w.heap.size ≤ gb11)); have n3_ := Aside0.mk ((by rw [hg]; exact (below_size (by repeat ((with_reducible first | exact HB.out )))) : w.heap.size ≤ gb11)); clear HB; have HB := n0_; have BK11 := n1_; have GW11 := n2_; have GE11 := n3_; clear n0_ n1_ n2_ n3_; clear hb hbox hg) | ((with_reducible refine gate_dst (N := 3) rfl ?_); refine box_event ?hg (N := 3) ?hd (cs := #[.bool true, .int .i64 a1_1, .int .i64 a1_2, .int .i64 a1_3]) (t := 48) ?hr ?_; (case hd => rfl); (case hg => rfl); (case hr => first | (go_simp; done) ); intro gb12 hg w24 hbox hb; have n0_ := Aside0.mk (blk_below (g := gb11) (o := .cells #[.slice A0_0 l0_0.length c0_0, .slice A0_1 l0_1.length c0_1, .slice A0_2 l0_2.length c0_2] 38 (0, 0)) (by (with_reducible repeat (first | refine blk_drewN ?_ _ | refine blk_drew ?_ | refine blk_alloc ?_ _)); exact BK11.out) hb); have n1_ := Aside0.mk (below_step (by repeat ((with_reducible first | exact HB.out ))) hb); have n2_ := Aside0.mk (hbox); have n3_ := Aside0.mk ((by rw [hg]; exact (below_size (by repeat ((with_reducible first | exact HB.out )))) : w.heap.size ≤ gb12)); have n4_ := Aside0.mk ((by rw [hg]; exact (below_size (by repeat ((with_reducible first | exact HB.out )))) : w.heap.size ≤ gb12)); have n5_ := Aside0.mk ((by rw [hg]; exact Nat.ne_of_lt (blk_lt (g := gb11) (o := .cells #[.slice A0_0 l0_0.length c0_0, .slice A0_1 l0_1.length c0_1, .slice A0_2 l0_2.length c0_2] 38 (0, 0)) (by (with_reducible repeat (first | refine blk_drewN ?_ _ | refine blk_drew ?_ | refine blk_alloc ?_ _)); exact BK11.out)) : gb11 ≠ gb12)); have n6_ := Aside0.mk ((by rw [hg]; exact Nat.ne_of_gt (blk_lt (g := gb11) (o := .cells #[.slice A0_0 l0_0.length c0_0, .slice A0_1 l0_1.length c0_1, .slice A0_2 l0_2.length c0_2] 38 (0, 0)) (by (with_reducible repeat (first | refine blk_drewN ?_ _ | refine blk_drew ?_ | refine blk_alloc ?_ _)); exact BK11.out)) : gb12 ≠ gb11)); clear BK11; clear HB; have BK11 := n0_; have HB := n1_; have BK12 := n2_; have GW12 := n3_; have GE12 := n4_; have NB11_12 := n5_; have NB12_11 := n6_; clear n0_ n1_ n2_ n3_ n4_ n5_ n6_; clear hb hbox hg; have hnb25 := NB12_11.out; have hnc25 := NB11_12.out; obtain ⟨hcz26_0, hcz26_1, hcz26_2, hcz26_3, hfz26_0, hfz26_1, hfz26_2, hfz26_3⟩ := bk4 BK12.out))
   go_ret
   exact ⟨by rfl, by repeat ((with_reducible first | exact HB.out ))⟩
 ·replace c3 := Bool.eq_false_iff.mpr c3
  subst c3
  have H1 : (if ((a1_2 == 0 && (a1_3 == 0))) = true then (if a1_1 ≥ 0 then (some (decide (a1_1 < 4))) else (some false)) else (some false)) = some r := by rw [if_neg (show ¬ (false = true) by decide)] at H; exact H
  clear H
  have H := H1
  clear H1
  by_cases c27 : ((a1_2 == 0 && (a1_3 == 0))) = true
  ·rw [if_pos c27] at H
   have c27b0 : ((a1_2 == 0 && (a1_3 == 0))) = true := c27
   clear c27
   by_cases c28 : a1_1 ≥ 0
   ·rw [if_pos c28] at H
    have c28b0 : decide (0 ≤ a1_1) = true := decide_eq_true c28
    clear c28
    obtain rfl := Option.some.inj H
    go_enter Try.func78, Try.ntmps78
    go_wp2_with (first | ((with_reducible refine gate_dst (N := 2) rfl ?_); refine box_event ?hg (N := 2) ?hd (cs := #[.slice A0_0 l0_0.length c0_0, .slice A0_1 l0_1.length c0_1, .slice A0_2 l0_2.length c0_2]) (t := 38) ?hr ?_; (case hd => rfl); (case hg => rfl); (case hr => first | (go_simp; done) ); intro gb11 hg w29 hbox hb; have n0_ := Aside0.mk (below_step (by repeat ((with_reducible first | exact HB.out ))) hb); have n1_ := Aside0.mk (hbox); have n2_ := Aside0.mk ((by rw [hg]; exact (below_size (by repeat ((with_reducible first | exact HB.out )))) : w.heap.size ≤ gb11)); have n3_ := Aside0.mk ((by rw [hg]; exact (below_size (by repeat ((with_reducible first | exact HB.out )))) : w.heap.size ≤ gb11)); clear HB; have HB := n0_; have BK11 := n1_; have GW11 := n2_; have GE11 := n3_; clear n0_ n1_ n2_ n3_; clear hb hbox hg) | ((with_reducible refine gate_dst (N := 3) rfl ?_); refine box_event ?hg (N := 3) ?hd (cs := #[.bool false, .int .i64 a1_1, .int .i64 a1_2, .int .i64 a1_3]) (t := 48) ?hr ?_; (case hd => rfl); (case hg => rfl); (case hr => first | (go_simp; done) ); intro gb12 hg w30 hbox hb; have n0_ := Aside0.mk (blk_below (g := gb11) (o := .cells #[.slice A0_0 l0_0.length c0_0, .slice A0_1 l0_1.length c0_1, .slice A0_2 l0_2.length c0_2] 38 (0, 0)) (by (with_reducible repeat (first | refine blk_drewN ?_ _ | refine blk_drew ?_ | refine blk_alloc ?_ _)); exact BK11.out) hb); have n1_ := Aside0.mk (below_step (by repeat ((with_reducible first | exact HB.out ))) hb); have n2_ := Aside0.mk (hbox); have n3_ := Aside0.mk ((by rw [hg]; exact (below_size (by repeat ((with_reducible first | exact HB.out )))) : w.heap.size ≤ gb12)); have n4_ := Aside0.mk ((by rw [hg]; exact (below_size (by repeat ((with_reducible first | exact HB.out )))) : w.heap.size ≤ gb12)); have n5_ := Aside0.mk ((by rw [hg]; exact Nat.ne_of_lt (blk_lt (g := gb11) (o := .cells #[.slice A0_0 l0_0.length c0_0, .slice A0_1 l0_1.length c0_1, .slice A0_2 l0_2.length c0_2] 38 (0, 0)) (by (with_reducible repeat (first | refine blk_drewN ?_ _ | refine blk_drew ?_ | refine blk_alloc ?_ _)); exact BK11.out)) : gb11 ≠ gb12)); have n6_ := Aside0.mk ((by rw [hg]; exact Nat.ne_of_gt (blk_lt (g := gb11) (o := .cells #[.slice A0_0 l0_0.length c0_0, .slice A0_1 l0_1.length c0_1, .slice A0_2 l0_2.length c0_2] 38 (0, 0)) (by (with_reducible repeat (first | refine blk_drewN ?_ _ | refine blk_drew ?_ | refine blk_alloc ?_ _)); exact BK11.out)) : gb12 ≠ gb11)); clear BK11; clear HB; have BK11 := n0_; have HB := n1_; have BK12 := n2_; have GW12 := n3_; have GE12 := n4_; have NB11_12 := n5_; have NB12_11 := n6_; clear n0_ n1_ n2_ n3_ n4_ n5_ n6_; clear hb hbox hg; have hnb31 := NB12_11.out; have hnc31 := NB11_12.out; obtain ⟨hcz32_0, hcz32_1, hcz32_2, hcz32_3, hfz32_0, hfz32_1, hfz32_2, hfz32_3⟩ := bk4 BK12.out))
    go_ret
    exact ⟨by rfl, by repeat ((with_reducible first | exact HB.out ))⟩
   ·rw [if_neg c28] at H
    have c28b0 : decide (0 ≤ a1_1) = false := decide_eq_false c28
    clear c28
    obtain rfl := Option.some.inj H
    go_enter Try.func78, Try.ntmps78
    go_wp2_with (first | ((with_reducible refine gate_dst (N := 2) rfl ?_); refine box_event ?hg (N := 2) ?hd (cs := #[.slice A0_0 l0_0.length c0_0, .slice A0_1 l0_1.length c0_1, .slice A0_2 l0_2.length c0_2]) (t := 38) ?hr ?_; (case hd => rfl); (case hg => rfl); (case hr => first | (go_simp; done) ); intro gb11 hg w33 hbox hb; have n0_ := Aside0.mk (below_step (by repeat ((with_reducible first | exact HB.out ))) hb); have n1_ := Aside0.mk (hbox); have n2_ := Aside0.mk ((by rw [hg]; exact (below_size (by repeat ((with_reducible first | exact HB.out )))) : w.heap.size ≤ gb11)); have n3_ := Aside0.mk ((by rw [hg]; exact (below_size (by repeat ((with_reducible first | exact HB.out )))) : w.heap.size ≤ gb11)); clear HB; have HB := n0_; have BK11 := n1_; have GW11 := n2_; have GE11 := n3_; clear n0_ n1_ n2_ n3_; clear hb hbox hg) | ((with_reducible refine gate_dst (N := 3) rfl ?_); refine box_event ?hg (N := 3) ?hd (cs := #[.bool false, .int .i64 a1_1, .int .i64 a1_2, .int .i64 a1_3]) (t := 48) ?hr ?_; (case hd => rfl); (case hg => rfl); (case hr => first | (go_simp; done) ); intro gb12 hg w34 hbox hb; have n0_ := Aside0.mk (blk_below (g := gb11) (o := .cells #[.slice A0_0 l0_0.length c0_0, .slice A0_1 l0_1.length c0_1, .slice A0_2 l0_2.length c0_2] 38 (0, 0)) (by (with_reducible repeat (first | refine blk_drewN ?_ _ | refine blk_drew ?_ | refine blk_alloc ?_ _)); exact BK11.out) hb); have n1_ := Aside0.mk (below_step (by repeat ((with_reducible first | exact HB.out ))) hb); have n2_ := Aside0.mk (hbox); have n3_ := Aside0.mk ((by rw [hg]; exact (below_size (by repeat ((with_reducible first | exact HB.out )))) : w.heap.size ≤ gb12)); have n4_ := Aside0.mk ((by rw [hg]; exact (below_size (by repeat ((with_reducible first | exact HB.out )))) : w.heap.size ≤ gb12)); have n5_ := Aside0.mk ((by rw [hg]; exact Nat.ne_of_lt (blk_lt (g := gb11) (o := .cells #[.slice A0_0 l0_0.length c0_0, .slice A0_1 l0_1.length c0_1, .slice A0_2 l0_2.length c0_2] 38 (0, 0)) (by (with_reducible repeat (first | refine blk_drewN ?_ _ | refine blk_drew ?_ | refine blk_alloc ?_ _)); exact BK11.out)) : gb11 ≠ gb12)); have n6_ := Aside0.mk ((by rw [hg]; exact Nat.ne_of_gt (blk_lt (g := gb11) (o := .cells #[.slice A0_0 l0_0.length c0_0, .slice A0_1 l0_1.length c0_1, .slice A0_2 l0_2.length c0_2] 38 (0, 0)) (by (with_reducible repeat (first | refine blk_drewN ?_ _ | refine blk_drew ?_ | refine blk_alloc ?_ _)); exact BK11.out)) : gb12 ≠ gb11)); clear BK11; clear HB; have BK11 := n0_; have HB := n1_; have BK12 := n2_; have GW12 := n3_; have GE12 := n4_; have NB11_12 := n5_; have NB12_11 := n6_; clear n0_ n1_ n2_ n3_ n4_ n5_ n6_; clear hb hbox hg; have hnb35 := NB12_11.out; have hnc35 := NB11_12.out; obtain ⟨hcz36_0, hcz36_1, hcz36_2, hcz36_3, hfz36_0, hfz36_1, hfz36_2, hfz36_3⟩ := bk4 BK12.out))
    go_ret
    exact ⟨by rfl, by repeat ((with_reducible first | exact HB.out ))⟩
  ·rw [if_neg c27] at H
   have c27b0 : ((a1_2 == 0 && (a1_3 == 0))) = false := by simpa using c27
   clear c27
   obtain rfl := Option.some.inj H
   go_enter Try.func78, Try.ntmps78
   go_wp2_with (first | ((with_reducible refine gate_dst (N := 2) rfl ?_); refine box_event ?hg (N := 2) ?hd (cs := #[.slice A0_0 l0_0.length c0_0, .slice A0_1 l0_1.length c0_1, .slice A0_2 l0_2.length c0_2]) (t := 38) ?hr ?_; (case hd => rfl); (case hg => rfl); (case hr => first | (go_simp; done) ); intro gb11 hg w37 hbox hb; have n0_ := Aside0.mk (below_step (by repeat ((with_reducible first | exact HB.out ))) hb); have n1_ := Aside0.mk (hbox); have n2_ := Aside0.mk ((by rw [hg]; exact (below_size (by repeat ((with_reducible first | exact HB.out )))) : w.heap.size ≤ gb11)); have n3_ := Aside0.mk ((by rw [hg]; exact (below_size (by repeat ((with_reducible first | exact HB.out )))) : w.heap.size ≤ gb11)); clear HB; have HB := n0_; have BK11 := n1_; have GW11 := n2_; have GE11 := n3_; clear n0_ n1_ n2_ n3_; clear hb hbox hg) | ((with_reducible refine gate_dst (N := 3) rfl ?_); refine box_event ?hg (N := 3) ?hd (cs := #[.bool false, .int .i64 a1_1, .int .i64 a1_2, .int .i64 a1_3]) (t := 48) ?hr ?_; (case hd => rfl); (case hg => rfl); (case hr => first | (go_simp; done) ); intro gb12 hg w38 hbox hb; have n0_ := Aside0.mk (blk_below (g := gb11) (o := .cells #[.slice A0_0 l0_0.length c0_0, .slice A0_1 l0_1.length c0_1, .slice A0_2 l0_2.length c0_2] 38 (0, 0)) (by (with_reducible repeat (first | refine blk_drewN ?_ _ | refine blk_drew ?_ | refine blk_alloc ?_ _)); exact BK11.out) hb); have n1_ := Aside0.mk (below_step (by repeat ((with_reducible first | exact HB.out ))) hb); have n2_ := Aside0.mk (hbox); have n3_ := Aside0.mk ((by rw [hg]; exact (below_size (by repeat ((with_reducible first | exact HB.out )))) : w.heap.size ≤ gb12)); have n4_ := Aside0.mk ((by rw [hg]; exact (below_size (by repeat ((with_reducible first | exact HB.out )))) : w.heap.size ≤ gb12)); have n5_ := Aside0.mk ((by rw [hg]; exact Nat.ne_of_lt (blk_lt (g := gb11) (o := .cells #[.slice A0_0 l0_0.length c0_0, .slice A0_1 l0_1.length c0_1, .slice A0_2 l0_2.length c0_2] 38 (0, 0)) (by (with_reducible repeat (first | refine blk_drewN ?_ _ | refine blk_drew ?_ | refine blk_alloc ?_ _)); exact BK11.out)) : gb11 ≠ gb12)); have n6_ := Aside0.mk ((by rw [hg]; exact Nat.ne_of_gt (blk_lt (g := gb11) (o := .cells #[.slice A0_0 l0_0.length c0_0, .slice A0_1 l0_1.length c0_1, .slice A0_2 l0_2.length c0_2] 38 (0, 0)) (by (with_reducible repeat (first | refine blk_drewN ?_ _ | refine blk_drew ?_ | refine blk_alloc ?_ _)); exact BK11.out)) : gb12 ≠ gb11)); clear BK11; clear HB; have BK11 := n0_; have HB := n1_; have BK12 := n2_; have GW12 := n3_; have GE12 := n4_; have NB11_12 := n5_; have NB12_11 := n6_; clear n0_ n1_ n2_ n3_ n4_ n5_ n6_; clear hb hbox hg; have hnb39 := NB12_11.out; have hnc39 := NB11_12.out; obtain ⟨hcz40_0, hcz40_1, hcz40_2, hcz40_3, hfz40_0, hfz40_1, hfz40_2, hfz40_3⟩ := bk4 BK12.out))
   go_ret
   exact ⟨by rfl, by repeat ((with_reducible first | exact HB.out ))⟩
end Go.Proofs.Ytkidnomkfdnciaa.All
namespace Go.Proofs.Ytkidnomkfdnciaa.All
open Go.RowKit Go.Proofs.YtkidnomkfdnciaaW.PrintWords Go.Proofs.YtkidnomkfdnciaaW.PrintLast Go.Proofs.YtkidnomkfdnciaaW.PrintMore
attribute [local go_sem] max2_int min2_int max_two min_two max_three min_three max_four min_four
set_option linter.unusedVariables false
set_option linter.unusedSimpArgs false
def fidxN {α : Type} (z : α) (f : α → Bool) (l : List α) : Nat → Nat → Int
  | 0, _ => -1
  | d + 1, k => if f (l.getD k z) = true then (k : Int) else fidxN z f l d (k + 1)
theorem fidxN_nonneg {α : Type} (z : α) (f : α → Bool) (l : List α) : ∀ d k, 0 ≤ fidxN z f l d k ↔ ∃ j, k ≤ j ∧ j < k + d ∧ f (l.getD j z) = true
  | 0, k => by simp only [fidxN]; constructor; · intro h; omega
               · rintro ⟨j, h1, h2, _⟩; omega
  | d + 1, k => by
    simp only [fidxN]
    split
    · rename_i h
      exact ⟨fun _ => ⟨k, Nat.le_refl _, by omega, h⟩, fun _ => by omega⟩
    · rename_i h
      rw [fidxN_nonneg z f l d (k + 1)]
      constructor
      · rintro ⟨j, h1, h2, h3⟩; exact ⟨j, by omega, by omega, h3⟩
      · rintro ⟨j, h1, h2, h3⟩
        refine ⟨j, ?_, by omega, h3⟩
        rcases Nat.lt_or_ge k j with h4 | h4
        · omega
        · obtain rfl : j = k := by omega
          exact absurd h3 h
theorem fidx_any {α : Type} (z : α) (f : α → Bool) (l : List α) : decide (0 ≤ fidxN z f l l.length 0) = l.any f := by
  rw [Bool.eq_iff_iff, decide_eq_true_eq, fidxN_nonneg, List.any_eq_true]
  constructor
  · rintro ⟨j, _, h2, h3⟩
    refine ⟨l.getD j z, ?_, h3⟩
    rw [List.getD_eq_getElem?_getD, List.getElem?_eq_getElem (by omega)]
    exact List.getElem_mem _
  · rintro ⟨x, hx, h⟩
    obtain ⟨j, hj, rfl⟩ := List.getElem_of_mem hx
    refine ⟨j, Nat.zero_le _, by omega, ?_⟩
    rw [List.getD_eq_getElem?_getD, List.getElem?_eq_getElem hj]
    exact h
theorem is_some (N : List S48) (G P : List Int) (g : Int) : memo_is.f N G P g = some (inB P g) := by
  unfold memo_is.f inB
  by_cases h : g ≥ 0
  · rw [if_pos h, decide_eq_true (show 0 ≤ g from h), Bool.true_and]
  · rw [if_neg h, decide_eq_false (show ¬ 0 ≤ g from h), Bool.false_and]
theorem node_some (N : List S48) (G P : List Int) (n : S48) : memo_node.f N G P n.f0 n.f1 n.f2 n.f3 = some (nodeB P n) := by
  obtain ⟨j, o, a, b⟩ := n
  unfold memo_node.f nodeB
  cases j with
  | true =>
    simp only [if_true, is_some, Option.bind_some]
    by_cases h : o = 0
    · rw [if_pos h, decide_eq_true h, Bool.true_and]
      cases inB P a <;> simp
    · rw [if_neg h, decide_eq_false h, Bool.false_and]
  | false =>
    simp only [Bool.false_eq_true, if_false, Bool.not_false, Bool.true_and]
    by_cases h1 : a = 0
    · by_cases h2 : b = 0
      · rw [if_pos (by simp [h1, h2]), decide_eq_true h1, decide_eq_true h2, Bool.and_self, Bool.true_and]
        by_cases h : o ≥ 0
        · rw [if_pos h, decide_eq_true (show 0 ≤ o from h), Bool.true_and]
        · rw [if_neg h, decide_eq_false (show ¬ 0 ≤ o from h), Bool.false_and]
      · rw [if_neg (by simp [h2]), decide_eq_false h2, Bool.and_false, Bool.false_and]
    · rw [if_neg (by simp [h1]), decide_eq_false h1, Bool.false_and, Bool.false_and]
structure MemoAt (w : World) (AN : Option Addr) (cN : Nat) (N : List S48) (AG : Option Addr) (cG : Nat) (G : List Int) (AP : Option Addr) (cP : Nat) (P : List Int) : Prop where
  n : Kd.C k48 w AN N.length N
  nc : N.length ≤ cN
  g : Kd.C (Kd.int .i64) w AG G.length G
  gc : G.length ≤ cG
  p : Kd.C (Kd.int .i64) w AP P.length P
  pc : P.length ≤ cP
section
variable {w w' : World} {AN AG AP : Option Addr} {cN cG cP : Nat} {N : List S48} {G P : List Int}
theorem MemoAt.below (h : MemoAt w AN cN N AG cG G AP cP P) (hb : Below w.heap.size w w') : MemoAt w' AN cN N AG cG G AP cP P :=
  ⟨Kd.C_below h.n hb, h.nc, Kd.C_below h.g hb, h.gc, Kd.C_below h.p hb, h.pc⟩
theorem is_calls (g : Int) (h : MemoAt w AN cN N AG cG G AP cP P) :
    Calls Try.prog 74 #[.agg #[.slice AN N.length cN, .slice AG G.length cG, .slice AP P.length cP], .int .i64 g] w fun e w' => e = .returned (.bool (inB P g)) ∧ Below w.heap.size w w' :=
  memo_is.calls AN cN N AG cG G AP cP P g _ w h.n h.nc h.g h.gc h.p h.pc (is_some N G P g)
theorem node_calls (n : S48) (h : MemoAt w AN cN N AG cG G AP cP P) :
    Calls Try.prog 78 #[.agg #[.slice AN N.length cN, .slice AG G.length cG, .slice AP P.length cP], .agg #[.bool n.f0, .int .i64 n.f1, .int .i64 n.f2, .int .i64 n.f3]] w fun e w' => e = .returned (.bool (nodeB P n)) ∧ Below w.heap.size w w' :=
  memo_node.calls AN cN N AG cG G AP cP P n.f0 n.f1 n.f2 n.f3 _ w h.n h.nc h.g h.gc h.p h.pc (node_some N G P n)
end
def MBox (w : World) (b : Nat) (AN : Option Addr) (cN : Nat) (N : List S48) (AG : Option Addr) (cG : Nat) (G : List Int) (AP : Option Addr) (cP : Nat) (P : List Int) : Prop :=
  w.heap[b]? = some (.cells #[.slice AN N.length cN, .slice AG G.length cG, .slice AP P.length cP] 38 (0, 0))
section
variable {w w' : World} {AN AG AP : Option Addr} {cN cG cP : Nat} {N : List S48} {G P : List Int} {b : Nat}
theorem MBox.lt (h : MBox w b AN cN N AG cG G AP cP P) : b < w.heap.size := blk_lt h
theorem MBox.below (h : MBox w b AN cN N AG cG G AP cP P) (hb : Below w.heap.size w w') : MBox w' b AN cN N AG cG G AP cP P := (hb.block b h.lt).trans h
theorem MBox.cells (h : MBox w b AN cN N AG cG G AP cP P) : w.cell? ⟨b, 0, none⟩ = some (.slice AN N.length cN) ∧ w.cell? ⟨b, 1, none⟩ = some (.slice AG G.length cG) ∧ w.cell? ⟨b, 2, none⟩ = some (.slice AP P.length cP) :=
  ⟨(blk_cell h 0).trans rfl, (blk_cell h 1).trans rfl, (blk_cell h 2).trans rfl⟩
end
set_option maxHeartbeats 4000000 in
set_option maxRecDepth 100000 in
theorem form1_calls {w : World} {AN AG AP : Option Addr} {cN cG cP : Nat} {N : List S48} {G P : List Int} {b : Nat} (g : Int) (h : MemoAt w AN cN N AG cG G AP cP P) (hb : MBox w b AN cN N AG cG G AP cP P) :
    Calls Try.prog 95 #[.int .i64 g, .pointer (some ⟨b, 0, none⟩)] w fun e w' => e = .returned (.bool (!inB P g)) ∧ Below w.heap.size w w' := by
  have H := Aside0.mk h
  obtain ⟨h0, h1, h2⟩ := hb.cells
  obtain ⟨v, hv⟩ : ∃ v, v = inB P g := ⟨_, rfl⟩
  have HC := Aside0.mk (is_calls g h)
  rw [← hv] at HC ⊢
  clear h hb hv
  go_enter Try.func95, Try.ntmps95
  go_wp2_with (go_at_call 74; refine HC.out.mono ?_; rintro e w1 ⟨rfl, hb1⟩; have HB := Aside0.mk hb1; clear hb1)
  go_ret
  exact ⟨rfl, HB.out⟩
set_option maxHeartbeats 4000000 in
set_option maxRecDepth 100000 in
theorem form2_calls {w : World} {AN AG AP : Option Addr} {cN cG cP : Nat} {N : List S48} {G P : List Int} {b : Nat} (n : S48) (h : MemoAt w AN cN N AG cG G AP cP P) (hb : MBox w b AN cN N AG cG G AP cP P) :
    Calls Try.prog 98 #[.agg #[.bool n.f0, .int .i64 n.f1, .int .i64 n.f2, .int .i64 n.f3], .pointer (some ⟨b, 0, none⟩)] w fun e w' => e = .returned (.bool (!nodeB P n)) ∧ Below w.heap.size w w' := by
  obtain ⟨v, hv⟩ : ∃ v, v = nodeB P n := ⟨_, rfl⟩
  obtain ⟨o, ho⟩ : ∃ o : Obj, o = .cells #[.bool n.f0, .int .i64 n.f1, .int .i64 n.f2, .int .i64 n.f3] 48 := ⟨_, rfl⟩
  have HC := Aside0.mk (node_calls n (h.below (below_alloc (Below.refl _ _) o)))
  obtain ⟨h0, h1, h2⟩ := (hb.below (below_alloc (Below.refl _ _) o)).cells
  rw [← hv] at HC ⊢
  rw [ho] at HC h0 h1 h2
  clear h hb hv ho
  go_enter Try.func98, Try.ntmps98
  go_wp2_with (go_at_call 78; refine HC.out.mono ?_; rintro e w1 ⟨rfl, hb1⟩; have HB := Aside0.mk hb1; clear hb1)
  go_ret
  exact ⟨rfl, below_then (below_alloc (Below.refl _ _) _) (by simp) HB.out⟩
section
variable {b : Nat}
set_option maxHeartbeats 8000000 in
set_option maxRecDepth 100000 in
theorem int_index {A : Option Addr} {c : Nat} {l : List Int} {fn : Value} {f : Int → Bool} (w : World) (hr : Kd.C (Kd.int .i64) w A l.length l) (hc : l.length ≤ c) (hfn : fn = .func (.func 95) #[] #[.pointer (some ⟨b, 0, none⟩)])
    (hf : ∀ (W : World) (x : Int), Below w.heap.size w W → Calls Try.prog 95 #[.int .i64 x, .pointer (some ⟨b, 0, none⟩)] W fun e w' => e = .returned (.bool (f x)) ∧ Below W.heap.size W w') :
    Calls Try.prog 102 #[.slice A l.length c, fn] w fun e w' => e = .returned (.int .i64 (fidxN 0 f l l.length 0)) ∧ Below w.heap.size w w' := by
  subst hfn
  have hmax := hr.2.1
  have HR := Aside0.mk hr
  have HF := Aside0.mk hf
  obtain ⟨v, hv⟩ : ∃ v, v = fidxN 0 f l l.length 0 := ⟨_, rfl⟩
  rw [← hv]
  have HV := Aside0.mk hv.symm
  clear hr hc hf hv
  go_enter Try.func102, Try.ntmps102
  go_wp2
  go_loopw [8] (fun i wr => ∃ k : Nat, k ≤ l.length ∧ i = .int .i64 k ∧ Aside0 (fidxN 0 f l (l.length - k) k = v) ∧ Aside0 (Below w.heap.size w wr)) (fun i _ => l.length - (intOf i).toNat)
  case atStart => exact ⟨0, Nat.zero_le _, rfl, ⟨HV.out⟩, ⟨Below.refl _ _⟩⟩
  case round =>
    obtain ⟨k, hk, rfl, HI, HB⟩ := hrel
    by_cases hlt : k < l.length
    · obtain ⟨ad, rfl, hcell⟩ := Kd.at_int (Kd.C_below HR.out HB.out) (k : Int) (by omega) (by omega)
      obtain ⟨x, hx⟩ : ∃ x, x = l.getD k 0 := ⟨_, rfl⟩
      have hstep : fidxN 0 f l (l.length - k) k = if f x = true then (k : Int) else fidxN 0 f l (l.length - (k + 1)) (k + 1) := by
        rw [show l.length - k = (l.length - (k + 1)) + 1 by omega, fidxN, ← hx]
      rw [Int.toNat_natCast, show rd l (k : Int) = x from by rw [hx]; simp [rd]] at hcell
      have HCF := Aside0.mk (HF.out wr x HB.out)
      rw [HI.out] at hstep
      cases hfx : f x with
      | true =>
        rw [hfx] at hstep HCF
        rw [if_pos rfl] at hstep
        have HS := Aside0.mk hstep
        clear hstep hfx hx
        go_wp2_with (go_at_call 95; refine HCF.out.mono ?_; rintro e w1 ⟨rfl, hb1⟩; have HB1 := Aside0.mk (below_then HB.out HB.out.size hb1); clear hb1)
        go_ret
        exact ⟨by rw [HS.out]; rfl, HB1.out⟩
      | false =>
        rw [hfx] at hstep HCF
        rw [if_neg (by decide)] at hstep
        have HS := Aside0.mk hstep
        clear hstep hfx hx
        go_wp2_with (go_at_call 95; refine HCF.out.mono ?_; rintro e w1 ⟨rfl, hb1⟩; have HB1 := Aside0.mk (below_then HB.out HB.out.size hb1); clear hb1)
        go_roundw
        case rel => exact ⟨k + 1, by omega, by go_num, ⟨HS.out.symm⟩, HB1⟩
        case measure => simp [intOf]; omega
    · obtain rfl : k = l.length := by omega
      have HE := Aside0.mk (show v = -1 from by rw [← HI.out, Nat.sub_self]; rfl)
      go_wp2
      go_ret
      exact ⟨by rw [HE.out]; rfl, HB.out⟩
set_option maxHeartbeats 4000000 in
set_option maxRecDepth 100000 in
theorem int_contains {A : Option Addr} {c : Nat} {l : List Int} {fn : Value} {f : Int → Bool} (w : World) (hr : Kd.C (Kd.int .i64) w A l.length l) (hc : l.length ≤ c) (hfn : fn = .func (.func 95) #[] #[.pointer (some ⟨b, 0, none⟩)])
    (hf : ∀ (W : World) (x : Int), Below w.heap.size w W → Calls Try.prog 95 #[.int .i64 x, .pointer (some ⟨b, 0, none⟩)] W fun e w' => e = .returned (.bool (f x)) ∧ Below W.heap.size W w') :
    Calls Try.prog 96 #[.slice A l.length c, fn] w fun e w' => e = .returned (.bool (l.any f)) ∧ Below w.heap.size w w' := by
  have HI := Aside0.mk (int_index w hr hc hfn hf)
  obtain ⟨v, hv⟩ : ∃ v, v = fidxN 0 f l l.length 0 := ⟨_, rfl⟩
  obtain ⟨r, hrr⟩ : ∃ r, r = l.any f := ⟨_, rfl⟩
  have he : decide (0 ≤ v) = r := by rw [hv, hrr]; exact fidx_any _ f l
  rw [← hv] at HI
  rw [← hrr]
  clear hr hc hf hv hrr hfn
  go_enter Try.func96, Try.ntmps96
  go_wp2_with (go_at_call 102; refine HI.out.mono ?_; rintro e w1 ⟨rfl, hb1⟩; have HB1 := Aside0.mk hb1; clear hb1)
  go_ret
  exact ⟨by rfl, HB1.out⟩
set_option maxHeartbeats 8000000 in
set_option maxRecDepth 100000 in
theorem nod_index {A : Option Addr} {c : Nat} {l : List S48} {fn : Value} {f : S48 → Bool} (w : World) (hr : Kd.C k48 w A l.length l) (hc : l.length ≤ c) (hfn : fn = .func (.func 98) #[] #[.pointer (some ⟨b, 0, none⟩)])
    (hf : ∀ (W : World) (x : S48), Below w.heap.size w W → Calls Try.prog 98 #[.agg #[.bool x.f0, .int .i64 x.f1, .int .i64 x.f2, .int .i64 x.f3], .pointer (some ⟨b, 0, none⟩)] W fun e w' => e = .returned (.bool (f x)) ∧ Below W.heap.size W w') :
    Calls Try.prog 103 #[.slice A l.length c, fn] w fun e w' => e = .returned (.int .i64 (fidxN z48 f l l.length 0)) ∧ Below w.heap.size w w' := by
  subst hfn
  have hmax := hr.2.1
  have HR := Aside0.mk hr
  have HF := Aside0.mk hf
  obtain ⟨v, hv⟩ : ∃ v, v = fidxN z48 f l l.length 0 := ⟨_, rfl⟩
  rw [← hv]
  have HV := Aside0.mk hv.symm
  clear hr hc hf hv
  go_enter Try.func103, Try.ntmps103
  go_wp2
  go_loopw [8] (fun i wr => ∃ k : Nat, k ≤ l.length ∧ i = .int .i64 k ∧ Aside0 (fidxN z48 f l (l.length - k) k = v) ∧ Aside0 (Below w.heap.size w wr)) (fun i _ => l.length - (intOf i).toNat)
  case atStart => exact ⟨0, Nat.zero_le _, rfl, ⟨HV.out⟩, ⟨Below.refl _ _⟩⟩
  case round =>
    obtain ⟨k, hk, rfl, HI, HB⟩ := hrel
    by_cases hlt : k < l.length
    · obtain ⟨ad, rfl, hc0, hc1, hc2, hc3⟩ := at_T48 (Kd.C_below HR.out HB.out) (k : Int) (by omega) (by omega)
      obtain ⟨x, hx⟩ : ∃ x, x = l.getD k z48 := ⟨_, rfl⟩
      have hstep : fidxN z48 f l (l.length - k) k = if f x = true then (k : Int) else fidxN z48 f l (l.length - (k + 1)) (k + 1) := by
        rw [show l.length - k = (l.length - (k + 1)) + 1 by omega, fidxN, ← hx]
      rw [Int.toNat_natCast, show rd_T48 l (k : Int) = x from by rw [hx]; simp [rd_T48]] at hc0 hc1 hc2 hc3
      have HCF := Aside0.mk (HF.out wr x HB.out)
      rw [HI.out] at hstep
      cases hfx : f x with
      | true =>
        rw [hfx] at hstep HCF
        rw [if_pos rfl] at hstep
        have HS := Aside0.mk hstep
        clear hstep hfx hx
        go_wp2_with (go_at_call 98; refine HCF.out.mono ?_; rintro e w1 ⟨rfl, hb1⟩; have HB1 := Aside0.mk (below_then HB.out HB.out.size hb1); clear hb1)
        go_ret
        exact ⟨by rw [HS.out]; rfl, HB1.out⟩
      | false =>
        rw [hfx] at hstep HCF
        rw [if_neg (by decide)] at hstep
        have HS := Aside0.mk hstep
        clear hstep hfx hx
        go_wp2_with (go_at_call 98; refine HCF.out.mono ?_; rintro e w1 ⟨rfl, hb1⟩; have HB1 := Aside0.mk (below_then HB.out HB.out.size hb1); clear hb1)
        go_roundw
        case rel => exact ⟨k + 1, by omega, by go_num, ⟨HS.out.symm⟩, HB1⟩
        case measure => simp [intOf]; omega
    · obtain rfl : k = l.length := by omega
      have HE := Aside0.mk (show v = -1 from by rw [← HI.out, Nat.sub_self]; rfl)
      go_wp2
      go_ret
      exact ⟨by rw [HE.out]; rfl, HB.out⟩
set_option maxHeartbeats 4000000 in
set_option maxRecDepth 100000 in
theorem nod_contains {A : Option Addr} {c : Nat} {l : List S48} {fn : Value} {f : S48 → Bool} (w : World) (hr : Kd.C k48 w A l.length l) (hc : l.length ≤ c) (hfn : fn = .func (.func 98) #[] #[.pointer (some ⟨b, 0, none⟩)])
    (hf : ∀ (W : World) (x : S48), Below w.heap.size w W → Calls Try.prog 98 #[.agg #[.bool x.f0, .int .i64 x.f1, .int .i64 x.f2, .int .i64 x.f3], .pointer (some ⟨b, 0, none⟩)] W fun e w' => e = .returned (.bool (f x)) ∧ Below W.heap.size W w') :
    Calls Try.prog 97 #[.slice A l.length c, fn] w fun e w' => e = .returned (.bool (l.any f)) ∧ Below w.heap.size w w' := by
  have HI := Aside0.mk (nod_index w hr hc hfn hf)
  obtain ⟨v, hv⟩ : ∃ v, v = fidxN z48 f l l.length 0 := ⟨_, rfl⟩
  obtain ⟨r, hrr⟩ : ∃ r, r = l.any f := ⟨_, rfl⟩
  have he : decide (0 ≤ v) = r := by rw [hv, hrr]; exact fidx_any _ f l
  rw [← hv] at HI
  rw [← hrr]
  clear hr hc hf hv hrr hfn
  go_enter Try.func97, Try.ntmps97
  go_wp2_with (go_at_call 103; refine HI.out.mono ?_; rintro e w1 ⟨rfl, hb1⟩; have HB1 := Aside0.mk hb1; clear hb1)
  go_ret
  exact ⟨by rfl, HB1.out⟩
end
section
variable {w : World} {AN AG AP : Option Addr} {cN cG cP : Nat} {N : List S48} {G P : List Int}
theorem mbox_new (w : World) (n : Nat) : MBox ((w.alloc (.cells #[.slice AN N.length cN, .slice AG G.length cG, .slice AP P.length cP] 38)).drewN n) w.heap.size AN cN N AG cG G AP cP P := blk_drewN (heap_alloc_new w _) n
theorem mem_new (h : MemoAt w AN cN N AG cG G AP cP P) (o : Obj) (n : Nat) : MemoAt ((w.alloc o).drewN n) AN cN N AG cG G AP cP P := h.below (pw_below_drewN (below_alloc (Below.refl _ _) o) n)
set_option maxHeartbeats 8000000 in
set_option maxRecDepth 100000 in
theorem form_early (h : MemoAt w AN cN N AG cG G AP cP P) (hno : mayB P = false ∨ mayB P = true ∧ (G.length ≠ N.length ∨ G.length = N.length ∧ 400 < N.length)) :
    Calls Try.prog 77 #[.agg #[.slice AN N.length cN, .slice AG G.length cG, .slice AP P.length cP]] w fun e w' => e = .returned (.bool false) ∧ Below w.heap.size w w' := by
  obtain ⟨o, ho⟩ : ∃ o : Obj, o = .cells #[.slice AN N.length cN, .slice AG G.length cG, .slice AP P.length cP] 38 := ⟨_, rfl⟩
  have HM := Aside0.mk (may_calls AP cP P (w.alloc o) (h.below (below_alloc (Below.refl _ _) o)).p h.pc)
  rw [ho] at HM
  rcases hno with h1 | ⟨h1, h2 | ⟨h2, h3⟩⟩
  · rw [h1] at HM
    clear h h1 ho
    go_enter Try.func77, Try.ntmps77
    go_wp2_with (go_at_call 25; refine HM.out.mono ?_; rintro e w1 ⟨rfl, ⟨nd, rfl⟩⟩)
    go_ret
    exact ⟨rfl, pw_below_drewN (below_alloc (Below.refl _ _) _) _⟩
  · have e1 : (G.length == N.length) = false := by rw [beq_eq_false_iff_ne]; exact h2
    have e2 : (G.length != N.length) = true := by rw [bne_iff_ne]; exact h2
    have e3 : ((G.length : Int) == (N.length : Int)) = false := by rw [beq_eq_false_iff_ne]; omega
    have e4 : ((G.length : Int) != (N.length : Int)) = true := by rw [bne_iff_ne]; omega
    rw [h1] at HM
    clear h h1 h2 ho
    go_enter Try.func77, Try.ntmps77
    go_wp2_with (go_at_call 25; refine HM.out.mono ?_; rintro e w1 ⟨rfl, ⟨nd, rfl⟩⟩)
    go_ret
    exact ⟨rfl, pw_below_drewN (below_alloc (Below.refl _ _) _) _⟩
  · have e1 : (G.length == N.length) = true := by rw [beq_iff_eq]; exact h2
    have e2 : (G.length != N.length) = false := by rw [bne_eq_false_iff_eq]; exact h2
    have e3 : ((G.length : Int) == (N.length : Int)) = true := by rw [beq_iff_eq]; omega
    have e4 : ((G.length : Int) != (N.length : Int)) = false := by rw [bne_eq_false_iff_eq]; omega
    have e5 : decide (400 < N.length) = true := by rw [decide_eq_true_eq]; exact h3
    have e6 : decide ((400 : Int) < (N.length : Int)) = true := by rw [decide_eq_true_eq]; omega
    rw [h1] at HM
    clear h h1 h2 h3 ho
    go_enter Try.func77, Try.ntmps77
    go_wp2_with (go_at_call 25; refine HM.out.mono ?_; rintro e w1 ⟨rfl, ⟨nd, rfl⟩⟩)
    go_ret
    exact ⟨rfl, pw_below_drewN (below_alloc (Below.refl _ _) _) _⟩
set_option maxHeartbeats 8000000 in
set_option maxRecDepth 100000 in
theorem form_late (h : MemoAt w AN cN N AG cG G AP cP P) (h1 : mayB P = true) (h2 : G.length = N.length) (h3 : N.length ≤ 400) :
    Calls Try.prog 77 #[.agg #[.slice AN N.length cN, .slice AG G.length cG, .slice AP P.length cP]] w fun e w' => e = .returned (.bool (!(G.any fun g => !inB P g) && !(N.any fun n => !nodeB P n))) ∧ Below w.heap.size w w' := by
  obtain ⟨o, ho⟩ : ∃ o : Obj, o = .cells #[.slice AN N.length cN, .slice AG G.length cG, .slice AP P.length cP] 38 := ⟨_, rfl⟩
  have HM := Aside0.mk (may_calls AP cP P (w.alloc o) (h.below (below_alloc (Below.refl _ _) o)).p h.pc)
  rw [ho, h1] at HM
  have HBX := fun nd => mbox_new (AN := AN) (cN := cN) (N := N) (AG := AG) (cG := cG) (G := G) (AP := AP) (cP := cP) (P := P) w nd
  have HBX := Aside0.mk HBX
  have HA := Aside0.mk (fun nd => mem_new h (.cells #[.slice AN N.length cN, .slice AG G.length cG, .slice AP P.length cP] 38) nd)
  obtain ⟨x, hx⟩ : ∃ x, x = G.any fun g => !inB P g := ⟨_, rfl⟩
  obtain ⟨y, hy⟩ : ∃ y, y = N.any fun n => !nodeB P n := ⟨_, rfl⟩
  have HG := Aside0.mk (fun (nd : Nat) (fn : Value) hfn => int_contains (b := w.heap.size) (fn := fn) (f := fun g => !inB P g) _ (HA.out nd).g (HA.out nd).gc hfn (fun W x hW => form1_calls x ((HA.out nd).below hW) ((HBX.out nd).below hW)))
  have HN := Aside0.mk (fun (nd : Nat) (W0 : World) (hW0 : Below ((w.alloc (.cells #[.slice AN N.length cN, .slice AG G.length cG, .slice AP P.length cP] 38)).drewN nd).heap.size ((w.alloc (.cells #[.slice AN N.length cN, .slice AG G.length cG, .slice AP P.length cP] 38)).drewN nd) W0) (fn : Value) hfn => nod_contains (b := w.heap.size) (fn := fn) (f := fun n => !nodeB P n) W0 ((HA.out nd).below hW0).n ((HA.out nd).below hW0).nc hfn (fun W x hW => form2_calls x (((HA.out nd).below hW0).below hW) (((HBX.out nd).below hW0).below hW)))
  rw [← hx] at HG
  rw [← hy] at HN
  rw [← hx, ← hy]
  have e1 : (G.length == N.length) = true := by rw [beq_iff_eq]; exact h2
  have e2 : (G.length != N.length) = false := by rw [bne_eq_false_iff_eq]; exact h2
  have e3 : ((G.length : Int) == (N.length : Int)) = true := by rw [beq_iff_eq]; omega
  have e4 : ((G.length : Int) != (N.length : Int)) = false := by rw [bne_eq_false_iff_eq]; omega
  have e5 : decide (400 < N.length) = false := by rw [decide_eq_false_iff_not]; omega
  have e6 : decide ((400 : Int) < (N.length : Int)) = false := by rw [decide_eq_false_iff_not]; omega
  clear h h1 h2 h3 ho hx hy
  cases x with
  | true =>
    go_enter Try.func77, Try.ntmps77
    go_wp2_with (first | (go_at_call 25; refine HM.out.mono ?_; rintro e w1 ⟨rfl, ⟨nd, rfl⟩⟩) | (go_at_call 96; refine (HG.out nd _ rfl).mono ?_; rintro e w2 ⟨rfl, hb2⟩; have HB2 := Aside0.mk hb2; clear hb2; obtain ⟨hd0, hd1, hd2⟩ := ((HBX.out nd).below HB2.out).cells))
    go_ret
    exact ⟨rfl, below_then (pw_below_drewN (below_alloc (Below.refl _ _) _) nd) (by simp) HB2.out⟩
  | false =>
    go_enter Try.func77, Try.ntmps77
    go_wp2_with (first | (go_at_call 25; refine HM.out.mono ?_; rintro e w1 ⟨rfl, ⟨nd, rfl⟩⟩) | (go_at_call 96; refine (HG.out nd _ rfl).mono ?_; rintro e w2 ⟨rfl, hb2⟩; have HB2 := Aside0.mk hb2; clear hb2; obtain ⟨hd0, hd1, hd2⟩ := ((HBX.out nd).below HB2.out).cells) | (go_at_call 97; refine (HN.out nd _ HB2.out _ rfl).mono ?_; rintro e w3 ⟨rfl, hb3⟩; have HB3 := Aside0.mk (HB2.out.trans (hb3.mono HB2.out.size)); clear hb3))
    go_ret
    exact ⟨by rfl, below_then (pw_below_drewN (below_alloc (Below.refl _ _) _) nd) (by simp) HB3.out⟩
theorem form_calls (h : MemoAt w AN cN N AG cG G AP cP P) :
    Calls Try.prog 77 #[.agg #[.slice AN N.length cN, .slice AG G.length cG, .slice AP P.length cP]] w fun e w' => e = .returned (.bool (formB N G P)) ∧ Below w.heap.size w w' := by
  cases h1 : mayB P with
  | false => unfold formB; rw [h1, Bool.false_and]; exact form_early h (.inl h1)
  | true =>
    by_cases h2 : G.length = N.length
    · by_cases h3 : N.length ≤ 400
      · unfold formB; rw [h1, decide_eq_true h2, decide_eq_true h3, Bool.true_and, Bool.true_and, Bool.true_and]; exact form_late h h1 h2 h3
      · unfold formB; rw [h1, decide_eq_true h2, decide_eq_false h3, Bool.true_and, Bool.true_and, Bool.false_and]; exact form_early h (.inr ⟨h1, .inr ⟨h2, by omega⟩⟩)
    · unfold formB; rw [h1, decide_eq_false h2, Bool.true_and, Bool.false_and]; exact form_early h (.inr ⟨h1, .inl h2⟩)
end
theorem canon_calls (n : S48) {A1 : Option Addr} {c1 : Nat} {R : List Int} {w : World} (hr1 : Kd.C (Kd.int .i64) w A1 R.length R) (hc1 : R.length ≤ c1) (h : n.f0 = true → inB R n.f2 = true ∧ inB R n.f3 = true) :
    Calls Try.prog 79 #[.agg #[.bool n.f0, .int .i64 n.f1, .int .i64 n.f2, .int .i64 n.f3], .slice A1 R.length c1] w fun e w' => e = .returned (.agg #[.bool (canonS R n).f0, .int .i64 (canonS R n).f1, .int .i64 (canonS R n).f2, .int .i64 (canonS R n).f3]) ∧ Below w.heap.size w w' := by
  refine memo_canon.calls n.f0 n.f1 n.f2 n.f3 A1 c1 R _ _ _ _ w hr1 hc1 ?_
  unfold memo_canon.f canonS
  cases hj : n.f0 with
  | true =>
    obtain ⟨h2, h3⟩ := h hj
    rw [if_pos rfl, h2, h3]
    rfl
  | false =>
    rw [if_neg (by decide), if_neg (by decide), hj]
theorem inB_of_len {P R : List Int} (h : R.length = P.length) (g : Int) : inB R g = inB P g := by unfold inB; rw [h]
theorem formB_parts {N : List S48} {G P : List Int} (h : formB N G P = true) : mayB P = true ∧ G.length = N.length ∧ N.length ≤ 400 ∧ (∀ i, i < G.length → inB P (G.getD i 0) = true) ∧ (∀ i, i < N.length → nodeB P (N.getD i z48) = true) := by
  simp only [formB, Bool.and_eq_true, decide_eq_true_eq, Bool.not_eq_true', List.any_eq_false, Bool.not_eq_true, Bool.not_eq_false'] at h
  obtain ⟨h1, h2, h3, h4, h5⟩ := h
  refine ⟨h1, h2, h3, fun i hi => ?_, fun i hi => ?_⟩
  · rw [List.getD_eq_getElem?_getD, List.getElem?_eq_getElem hi]
    simpa using h4 _ (List.getElem_mem hi)
  · rw [List.getD_eq_getElem?_getD, List.getElem?_eq_getElem hi]
    simpa using h5 _ (List.getElem_mem hi)
theorem wf_small {x : Int} (h0 : 0 ≤ x) (h1 : x ≤ 1000) : (Lit.int .i64 x).wf = true := by simp [Lit.wf, IntKind.min, IntKind.max, IntKind.signed, IntKind.bits]; omega
theorem roots_bd {P : List Int} (hm : mayB P = true) {g : Int} (hg : inB P g = true) : 0 ≤ rd (rootsS P) g ∧ rd (rootsS P) g ≤ 400 := by
  simp only [inB, Bool.and_eq_true, decide_eq_true_eq] at hg
  have hl := mayB_len hm
  have hn : g.toNat < P.length := by omega
  have h1 := upN_le P hm g.toNat g.toNat hn
  have : rd (rootsS P) g = ((rootN P g.toNat : Nat) : Int) := by
    unfold rd rootsS
    rw [if_pos hm]
    simp [List.getD_eq_getElem?_getD, List.getElem?_map, List.getElem?_range hn]
  rw [this]
  unfold rootN
  omega
theorem canon_wf {P : List Int} (hm : mayB P = true) {n : S48} (hn : nodeB P n = true) : wfN (canonS (rootsS P) n) = true := by
  obtain ⟨j, o, a, b⟩ := n
  unfold nodeB at hn
  unfold canonS
  cases j with
  | true =>
    simp only [if_true, Bool.and_eq_true, decide_eq_true_eq] at hn
    have h1 := roots_bd hm hn.2.1
    have h2 := roots_bd hm hn.2.2
    simp only [if_true, wfN, Bool.and_eq_true]
    exact ⟨⟨wf_small (by omega) (by omega), wf_small h1.1 (by omega)⟩, wf_small h2.1 (by omega)⟩
  | false =>
    simp only [Bool.false_eq_true, if_false, Bool.and_eq_true, decide_eq_true_eq] at hn
    simp only [Bool.false_eq_true, if_false, wfN, Bool.and_eq_true]
    exact ⟨⟨wf_small (by omega) (by omega), wf_small (by omega) (by omega)⟩, wf_small (by omega) (by omega)⟩
theorem posN_lt (cs : List S48) (x : S48) : ∀ k i, posN cs x k = some i → i < k
  | 0, i, h => by cases h
  | k + 1, i, h => by
    unfold posN at h
    cases hp : posN cs x k with
    | some j =>
      rw [hp] at h
      obtain rfl := Option.some.inj h
      have := posN_lt cs x k j hp
      omega
    | none =>
      rw [hp] at h
      simp only at h
      split at h
      · obtain rfl := Option.some.inj h; omega
      · cases h
structure FirstInv (w wr : World) (AN : Option Addr) (cN : Nat) (N : List S48) (AG : Option Addr) (cG : Nat) (G : List Int) (AP : Option Addr) (cP : Nat) (P : List Int) (b b3 bm : Nat) (AR : Option Addr) (cR : Nat) (R : List Int) (f : S48 → Option Nat) (n : Nat) : Prop where
  bel : Below w.heap.size w wr
  box : MBox wr b AN cN N AG cG G AP cP P
  res : wr.heap[b3]? = some (.cells #[.int .i64 0, .int .i64 0] 89 (0, 0))
  roots : Kd.R (Kd.int .i64) 3 wr w.heap.size (fun k => k ≠ bm) (.slice AR R.length cR) R
  map : NMap wr bm f n
  b0 : w.heap.size ≤ bm
  b1 : b ≠ bm
  b2 : b3 ≠ bm
  b4 : w.heap.size ≤ b
  b5 : w.heap.size ≤ b3
theorem FirstInv.below {w wr w' : World} {AN AG AP AR : Option Addr} {cN cG cP cR : Nat} {N : List S48} {G P R : List Int} {b b3 bm n : Nat} {f : S48 → Option Nat} (h : FirstInv w wr AN cN N AG cG G AP cP P b b3 bm AR cR R f n) (hb : Below wr.heap.size wr w') :
    FirstInv w w' AN cN N AG cG G AP cP P b b3 bm AR cR R f n :=
  ⟨below_then h.bel h.bel.size hb, h.box.below hb, (hb.block b3 (blk_lt h.res)).trans h.res, Kd.R_below h.roots hb, h.map.below hb, h.b0, h.b1, h.b2, h.b4, h.b5⟩
theorem FirstInv.put {w wr w' : World} {AN AG AP AR : Option Addr} {cN cG cP cR : Nat} {N : List S48} {G P R : List Int} {b b3 bm n n' : Nat} {f f' : S48 → Option Nat} (h : FirstInv w wr AN cN N AG cG G AP cP P b b3 bm AR cR R f n) (hg : wr.grownBy w' (some bm)) (hm : NMap w' bm f' n') :
    FirstInv w w' AN cN N AG cG G AP cP P b b3 bm AR cR R f' n' :=
  ⟨h.bel.grown hg h.bel.size (fun k hk => by obtain rfl := Option.some.inj hk; exact h.b0), (hg.block b h.box.lt (fun e => h.b1 (Option.some.inj e))).trans h.box, (hg.block b3 (blk_lt h.res) (fun e => h.b2 (Option.some.inj e))).trans h.res,
    Kd.R_grown h.roots hg (fun k hk e => hk (Option.some.inj e)), hm, h.b0, h.b1, h.b2, h.b4, h.b5⟩
theorem alloc_size1 (w : World) (o : Obj) : (w.alloc o).heap.size = w.heap.size + 1 := Array.size_push _
theorem rfl_size (w : World) (o o' : Obj) : ((w.alloc o).alloc o').heap.size = w.heap.size + 2 := by rw [alloc_size1, alloc_size1]
theorem first_box (w : World) (AN : Option Addr) (cN : Nat) (N : List S48) (AG : Option Addr) (cG : Nat) (G : List Int) (AP : Option Addr) (cP : Nat) (P : List Int) :
    MBox ((w.alloc (.cells #[.slice AN N.length cN, .slice AG G.length cG, .slice AP P.length cP] 38)).alloc (.cells #[.int .i64 0, .int .i64 0] 89)) w.heap.size AN cN N AG cG G AP cP P ∧
    ((w.alloc (.cells #[.slice AN N.length cN, .slice AG G.length cG, .slice AP P.length cP] 38)).alloc (.cells #[.int .i64 0, .int .i64 0] 89)).heap[w.heap.size + 1]? = some (.cells #[.int .i64 0, .int .i64 0] 89 (0, 0)) ∧
    ((w.alloc (.cells #[.slice AN N.length cN, .slice AG G.length cG, .slice AP P.length cP] 38)).alloc (.cells #[.int .i64 0, .int .i64 0] 89)).heap.size = w.heap.size + 2 := by
  have h1 : MBox (w.alloc (.cells #[.slice AN N.length cN, .slice AG G.length cG, .slice AP P.length cP] 38)) w.heap.size AN cN N AG cG G AP cP P := heap_alloc_new w _
  refine ⟨h1.below (below_alloc (Below.refl _ _) _), ?_, rfl_size _ _ _⟩
  have := heap_alloc_new (w.alloc (.cells #[.slice AN N.length cN, .slice AG G.length cG, .slice AP P.length cP] 38)) (.cells #[.int .i64 0, .int .i64 0] 89)
  rw [alloc_size1 w] at this
  exact this
def firstR : Option (Int × Int) → Int × Int × Bool
  | none => (0, 0, true)
  | some (a, b) => (a, b, false)
theorem NMap.grown {w w' : World} {b n : Nat} {f : S48 → Option Nat} (h : NMap w b f n) {row : Option Nat} (hg : w.grownBy w' row) (hne : some b ≠ row) : NMap w' b f n := by
  obtain ⟨D, h, r⟩ := h
  exact ⟨D, h.kept hg hne, r⟩
theorem grown_set (w : World) (b i : Nat) (v : Value) : w.grownBy (w.setCell ⟨b, i, none⟩ v) (some b) :=
  ⟨rfl, rfl, rfl, by simp, fun k _ hk => Below.heap_setCell _ _ _ k (fun e => hk (by rw [e]))⟩
theorem FirstInv.cong {w wr : World} {AN AG AP AR : Option Addr} {cN cG cP cR : Nat} {N : List S48} {G P R : List Int} {b b3 bm n : Nat} {f g : S48 → Option Nat} (h : FirstInv w wr AN cN N AG cG G AP cP P b b3 bm AR cR R f n) (e : ∀ x, wfN x = true → f x = g x) :
    FirstInv w wr AN cN N AG cG G AP cP P b b3 bm AR cR R g n := ⟨h.bel, h.box, h.res, h.roots, h.map.congr e, h.b0, h.b1, h.b2, h.b4, h.b5⟩
set_option maxHeartbeats 16000000 in
set_option maxRecDepth 100000 in
theorem first_calls {w : World} {AN AG AP : Option Addr} {cN cG cP : Nat} {N : List S48} {G P : List Int} (h : MemoAt w AN cN N AG cG G AP cP P) (hf : formB N G P = true) :
    Calls Try.prog 76 #[.agg #[.slice AN N.length cN, .slice AG G.length cG, .slice AP P.length cP]] w fun e w' => ∃ b, e = .returned (.tuple #[.map (some b), .agg #[.int .i64 (firstR (confS N G P)).1, .int .i64 (firstR (confS N G P)).2.1], .bool (confS N G P).isNone]) ∧ Below w.heap.size w w' ∧ w.heap.size ≤ b ∧ (confS N G P = none → ∃ n, NMap w' b (fun x => posN (canonsS N P) x N.length) n ∧ n ≤ N.length) := by
  obtain ⟨hm, hGN, hNl, hGi, hNi⟩ := formB_parts hf
  have hPl := mayB_len hm
  obtain ⟨R, hR⟩ : ∃ R, R = rootsS P := ⟨_, rfl⟩
  have hRl : R.length = P.length := by rw [hR]; exact rootsS_length P hm
  have HRl := Aside0.mk hRl
  have HRE := Aside0.mk hR
  have HGN := Aside0.mk hGN
  have HGi := Aside0.mk hGi
  have HNi := Aside0.mk hNi
  have HPl := Aside0.mk hPl
  have HM := Aside0.mk hm
  have H := Aside0.mk h
  have HR := Aside0.mk (show sets_Roots.f 0 P = some R from by rw [hR]; rfl)
  have HB0 := Aside0.mk (Below.refl w.heap.size w)
  have HFB := Aside0.mk (first_box w AN cN N AG cG G AP cP P)
  obtain ⟨cs, hcs⟩ : ∃ cs, cs = canonsS N P := ⟨_, rfl⟩
  obtain ⟨T, hT⟩ : ∃ T, T = confS N G P := ⟨_, rfl⟩
  have HCS := Aside0.mk hcs
  have HT := Aside0.mk (show confN cs G R (N.length - 0) 0 = T from by rw [hT, confS, hcs, hR]; rfl)
  have hcat : ∀ k, k < N.length → cs.getD k z48 = canonS R (N.getD k z48) := by
    intro k hk
    rw [hcs, hR, canonsS]
    simp [List.getD_eq_getElem?_getD, List.getElem?_map, List.getElem?_eq_getElem hk]
  have HCAT := Aside0.mk hcat
  rw [← hT, ← hcs]
  clear hcat hcs hT
  clear h hm hGN hGi hNi hPl hRl hR hf
  have hmm := @run_makeMap Try.prog
  go_enter Try.func76, Try.ntmps76
  go_wp2_with (go_at_call 33; (refine (sets_Roots.calls 0 AP cP P R _ (H.out.below (below_alloc (below_alloc (Below.refl _ _) _) _)).p H.out.pc HR.out).mono ?_; rintro e w1 ⟨v1, rfl, ho1, hb1⟩; have HO1 := Aside0.mk ho1; have HB1 := Aside0.mk hb1; obtain ⟨A1, c1, e1⟩ := Kd.R_slice HO1.out; subst e1; obtain ⟨hd0, hd1, hd2⟩ := (HFB.out.1.below hb1).cells; have hsz := hb1.size; rw [HFB.out.2.2] at hsz; have hs0 : w.heap.size < w1.heap.size := (by omega); clear ho1 hb1))
  go_loopw [19] (fun i wr => ∃ k : Nat, k ≤ N.length ∧ i = .int .i64 k ∧ Aside0 (∃ n, n ≤ k ∧ FirstInv w wr AN cN N AG cG G AP cP P w.heap.size (w.heap.size + 1) w1.heap.size A1 c1 R (fun x => posN cs x k) n) ∧ Aside0 (confN cs G R (N.length - k) k = T)) (fun i _ => N.length - (intOf i).toNat)
  case atStart =>
    refine ⟨0, Nat.zero_le _, rfl, ⟨0, Nat.le_refl _, ?_⟩, HT⟩
    have hb2 : Below w.heap.size w w1 := below_then (below_alloc (below_alloc (Below.refl _ _) _) _) (by rw [rfl_size]; omega) HB1.out
    refine ⟨below_alloc hb2 _, (HFB.out.1.below HB1.out).below (below_alloc (Below.refl _ _) _), ?_, ?_, ?_, by omega, by omega, by omega, by omega, by omega⟩
    · exact ((HB1.out.trans (below_alloc (Below.refl _ _) _ |>.mono HB1.out.size)).block _ (by rw [rfl_size]; omega)).trans HFB.out.2.1
    · exact Kd.R_mono (Kd.R_alloc (Kd.R_bound (Kd.R_lower HO1.out (by rw [rfl_size]; omega))) _) (fun k hk => by have := hk.2.2.1; omega)
    · exact NMap.new w1
  case round =>
    obtain ⟨k, hk, rfl, HI, HT⟩ := hrel
    by_cases hlt : k < N.length
    · obtain ⟨n, hn, hI⟩ := HI.out
      obtain ⟨ad, hAN, hc0, hc1, hc2, hc3⟩ := at_T48 (H.out.n |> fun h => Kd.C_below h hI.bel) (k : Int) (by omega) (by omega)
      obtain ⟨x, hx⟩ : ∃ x, x = N.getD k z48 := ⟨_, rfl⟩
      rw [Int.toNat_natCast, show rd_T48 N (k : Int) = x from by rw [hx]; simp [rd_T48]] at hc0 hc1 hc2 hc3
      subst hAN
      obtain ⟨c, hc⟩ : ∃ c, c = cs.getD k z48 := ⟨_, rfl⟩
      have hcx : c = canonS R x := by rw [hc, HCAT.out k hlt, ← hx]
      have hnx : nodeB P x = true := by rw [hx]; exact HNi.out k hlt
      have hwf : wfN c = true := by rw [hcx, HRE.out]; exact canon_wf HM.out hnx
      have hin : x.f0 = true → inB R x.f2 = true ∧ inB R x.f3 = true := by
        intro h0
        unfold nodeB at hnx
        rw [if_pos h0] at hnx
        simp only [Bool.and_eq_true] at hnx
        rw [inB_of_len HRl.out, inB_of_len HRl.out]
        exact hnx.2
      have HCC := Aside0.mk (fun (W : World) (hb : Below wr.heap.size wr W) => canon_calls x (Kd.C_below (Kd.R_reads' hI.roots).2.2 hb) (Kd.R_reads' hI.roots).2.1 hin)
      rw [← hcx] at HCC
      have HII := Aside0.mk hI
      have HN := Aside0.mk hn
      have HWF := Aside0.mk hwf
      have HCD := Aside0.mk hc
      clear hn hI hx hcx hnx hwf hin HI hc
      go_upto_if 34 with (first | (go_at_call 79; (refine (HCC.out _ (below_alloc (Below.refl _ _) _)).mono ?_; rintro e w2 ⟨rfl, hb2⟩; have HI2 := Aside0.mk (HII.out.below (below_then (below_alloc (Below.refl _ _) _) (by rw [alloc_size1]; omega) hb2)); clear hb2)) | (at_lookup; (refine NMap.look_ok ((HI2.out.map).below (below_alloc (Below.refl _ _) _)) rfl _ _ rfl rfl c rfl HWF.out ?_)))
      cases hp : posN cs c k with
      | none =>
        have HP := Aside0.mk hp
        clear hp
        simp only [Option.isNone_none]
        have HI3 := Aside0.mk (HI2.out.below (below_alloc (Below.refl _ _) (.cells #[.bool c.f0, .int .i64 c.f1, .int .i64 c.f2, .int .i64 c.f3] 48)))
        go_wp2_with (at_mapUpdate; (refine NMap.put_ HI3.out.map rfl _ _ _ rfl rfl c rfl HWF.out k rfl (by omega) (by have := HN.out; omega) ?_; intro w3 hm3 hg3; have HM3 := Aside0.mk hm3; have HG3 := Aside0.mk hg3; clear hm3 hg3))
        go_roundw
        case rel =>
          refine ⟨k + 1, by omega, by go_num, ⟨n + 1, by have := HN.out; omega, HI3.out.put HG3.out (HM3.out.congr ?_)⟩, ⟨?_⟩⟩
          · intro y _
            rw [posN, ← HCD.out]
            by_cases e : y = c
            · rw [if_pos e, e, HP.out]; simp
            · rw [if_neg e]
              cases posN cs y k with
              | some j => rfl
              | none => simp only; rw [if_neg (fun h => e h.symm)]
          · have h := HT.out
            rw [show N.length - k = (N.length - (k + 1)) + 1 by omega, confN, ← HCD.out, HP.out] at h
            exact h
        case measure => simp [intOf]; omega
      | some i =>
        have hAt : atN (fun x => posN cs x k) c = (i : Int) := by unfold atN; simp only; rw [hp]
        rw [hAt]
        have hik := posN_lt cs c k i hp
        have HP := Aside0.mk hp
        obtain ⟨W, hW⟩ : ∃ W, W = w2.alloc (.cells #[.bool c.f0, .int .i64 c.f1, .int .i64 c.f2, .int .i64 c.f3] 48) := ⟨_, rfl⟩
        have hI3 := HI2.out.below (below_alloc (Below.refl _ _) (.cells #[.bool c.f0, .int .i64 c.f1, .int .i64 c.f2, .int .i64 c.f3] 48))
        rw [← hW] at hI3 ⊢
        obtain ⟨hd0, hd1, hd2⟩ := hI3.box.cells
        have hCG := Kd.C_below H.out.g hI3.bel
        have hCR := (Kd.R_reads' hI3.roots).2.2
        obtain ⟨aG, e, hg1⟩ := Kd.at_int hCG (i : Int) (by omega) (by have := HGN.out; omega)
        subst e
        obtain ⟨aG', e, hg2⟩ := Kd.at_int hCG (k : Int) (by omega) (by have := HGN.out; omega)
        cases e
        obtain ⟨g1, e1⟩ : ∃ g1, g1 = rd G (i : Int) := ⟨_, rfl⟩
        obtain ⟨g2, e2⟩ : ∃ g2, g2 = rd G (k : Int) := ⟨_, rfl⟩
        rw [← e1, Int.toNat_natCast] at hg1
        rw [← e2, Int.toNat_natCast] at hg2
        have hb1 : 0 ≤ g1 ∧ g1 < R.length := by
          have := HGi.out i (by have := HGN.out; omega)
          rw [e1, rd, Int.toNat_natCast]
          rw [← inB_of_len HRl.out] at this
          simpa [inB] using this
        have hb2 : 0 ≤ g2 ∧ g2 < R.length := by
          have := HGi.out k (by have := HGN.out; omega)
          rw [e2, rd, Int.toNat_natCast]
          rw [← inB_of_len HRl.out] at this
          simpa [inB] using this
        obtain ⟨hb1a, hb1b⟩ := hb1
        obtain ⟨hb2a, hb2b⟩ := hb2
        obtain ⟨aR, e, hr1⟩ := Kd.at_int hCR g1 hb1a hb1b
        subst e
        obtain ⟨aR', e, hr2⟩ := Kd.at_int hCR g2 hb2a hb2b
        cases e
        obtain ⟨r1, e3⟩ : ∃ r1, r1 = rd R g1 := ⟨_, rfl⟩
        obtain ⟨r2, e4⟩ : ∃ r2, r2 = rd R g2 := ⟨_, rfl⟩
        rw [← e3] at hr1
        rw [← e4] at hr2
        have hiG : i < G.length := by have := HGN.out; omega
        have hkG : k < G.length := by have := HGN.out; omega
        have HE := Aside0.mk (And.intro e1 (And.intro e2 (And.intro e3 e4)))
        have HI3 := Aside0.mk hI3
        clear hp hW hI3 e1 e2 e3 e4 hCG hCR hAt
        simp only [Option.isNone_some]
        by_cases hrr : r1 = r2
        · have eb : (r1 == r2) = true := by rw [beq_iff_eq]; exact hrr
          have HRR := Aside0.mk hrr
          clear hrr
          go_wp2
          go_quiet (fail)
          go_wp2
          go_roundw
          case rel =>
            obtain ⟨e1, e2, e3, e4⟩ := HE.out
            refine ⟨k + 1, by omega, by go_num, ⟨n, by have := HN.out; omega, ?_⟩, ⟨?_⟩⟩
            · have hfi := HI3.out
              have : ∀ y, wfN y = true → posN cs y k = posN cs y (k + 1) := by
                intro y _
                rw [posN, ← HCD.out]
                by_cases e : c = y
                · rw [← e, HP.out]
                · rw [if_neg e]
                  cases posN cs y k <;> rfl
              exact (HI3.out.cong this).below (pw_below_drewN (Below.refl _ _) _)
            · have h := HT.out
              rw [show N.length - k = (N.length - (k + 1)) + 1 by omega, confN, ← HCD.out, HP.out] at h
              dsimp only at h
              simp only [rd, Int.toNat_natCast] at e1 e2
              rw [← e1, ← e2, if_pos (by rw [← e3, ← e4]; exact HRR.out)] at h
              exact h
          case measure => simp [intOf]; omega
        · have eb : (r1 == r2) = false := by rw [beq_eq_false_iff_ne]; exact hrr
          have HRR := Aside0.mk hrr
          have HTT := Aside0.mk (show T = some (g1, g2) from by
            obtain ⟨e1, e2, e3, e4⟩ := HE.out
            have h := HT.out
            rw [show N.length - k = (N.length - (k + 1)) + 1 by omega, confN, ← HCD.out, HP.out] at h
            dsimp only at h
            simp only [rd, Int.toNat_natCast] at e1 e2
            rw [← e1, ← e2, if_neg (by rw [← e3, ← e4]; exact hrr)] at h
            exact h.symm)
          clear hrr
          go_wp2
          go_quiet (fail)
          go_wp2
          have hs1 : W.cell? ⟨w.heap.size + 1, 0, none⟩ = some (.int .i64 0) := (blk_cell HI3.out.res 0).trans rfl
          have hs2 : W.cell? ⟨w.heap.size + 1, 1, none⟩ = some (.int .i64 0) := (blk_cell HI3.out.res 1).trans rfl
          have hs3 : W.frozen? ⟨w.heap.size + 1, 0, none⟩ = false := blk_frozen HI3.out.res 0
          have hs4 : W.frozen? ⟨w.heap.size + 1, 1, none⟩ = false := blk_frozen HI3.out.res 1
          go_region
          go_wp2
          refine bodyPost_ret (v := .tuple #[.map (some w1.heap.size), .agg #[.int .i64 g1, .int .i64 g2], .bool false]) (by simp [results, Try.results76, go_sem, hs1, hs2]) rfl ⟨_, by rw [HTT.out]; rfl, below_set (below_set (HI3.out.below (pw_below_drewN (Below.refl _ _) _)).bel (by simp)) (by simp), HI3.out.b0, fun e => ?_⟩
          rw [HTT.out] at e
          cases e
    · obtain rfl : k = N.length := by omega
      have HI4 := HI.out
      obtain ⟨n, hn, hI⟩ := HI.out
      have hs1 : wr.cell? ⟨w.heap.size + 1, 0, none⟩ = some (.int .i64 0) := (blk_cell hI.res 0).trans rfl
      have hs2 : wr.cell? ⟨w.heap.size + 1, 1, none⟩ = some (.int .i64 0) := (blk_cell hI.res 1).trans rfl
      have hs3 : wr.frozen? ⟨w.heap.size + 1, 0, none⟩ = false := blk_frozen hI.res 0
      have hs4 : wr.frozen? ⟨w.heap.size + 1, 1, none⟩ = false := blk_frozen hI.res 1
      have HII := Aside0.mk hI
      have HN := Aside0.mk hn
      have HTT := Aside0.mk (show T = none from by rw [← HT.out, Nat.sub_self]; rfl)
      clear hI HI4 HI hn
      go_wp2
      refine bodyPost_ret (v := .tuple #[.map (some w1.heap.size), .agg #[.int .i64 0, .int .i64 0], .bool true]) (by simp [results, Try.results76, go_sem, hs1, hs2]) rfl ⟨_, by rw [HTT.out]; rfl, below_set (below_set HII.out.bel (by simp)) (by simp), HII.out.b0, fun _ => ⟨n, ?_, HN.out⟩⟩
      exact (HII.out.map.grown (grown_set _ _ _ _) (fun e => HII.out.b2 (Option.some.inj e).symm)).grown (grown_set _ _ _ _) (fun e => HII.out.b2 (Option.some.inj e).symm)
theorem box_new (w : World) (AN : Option Addr) (cN : Nat) (N : List S48) (AG : Option Addr) (cG : Nat) (G : List Int) (AP : Option Addr) (cP : Nat) (P : List Int) : MBox (w.alloc (.cells #[.slice AN N.length cN, .slice AG G.length cG, .slice AP P.length cP] 38)) w.heap.size AN cN N AG cG G AP cP P := heap_alloc_new w _
set_option maxHeartbeats 8000000 in
set_option maxRecDepth 100000 in
theorem mmay_calls {w : World} {AN AG AP : Option Addr} {cN cG cP : Nat} {N : List S48} {G P : List Int} (h : MemoAt w AN cN N AG cG G AP cP P) :
    Calls Try.prog 41 #[.agg #[.slice AN N.length cN, .slice AG G.length cG, .slice AP P.length cP]] w fun e w' => e = .returned (.bool (mayMB N G P)) ∧ Below w.heap.size w w' := by
  have H := Aside0.mk h
  have hb := box_new w AN cN N AG cG G AP cP P
  obtain ⟨hd0, hd1, hd2⟩ := hb.cells
  have HBX := Aside0.mk hb
  have HF := Aside0.mk (form_calls (h.below (below_alloc (Below.refl _ _) (.cells #[.slice AN N.length cN, .slice AG G.length cG, .slice AP P.length cP] 38))))
  unfold mayMB
  clear h hb
  cases hf : formB N G P with
  | false =>
    rw [hf] at HF
    clear hf
    go_enter Try.func41, Try.ntmps41
    go_wp2_with (go_at_call 77; refine HF.out.mono ?_; rintro e w1 ⟨rfl, hb1⟩; have HB1 := Aside0.mk hb1; clear hb1)
    go_ret
    exact ⟨rfl, below_then (below_alloc (Below.refl _ _) _) (by simp) HB1.out⟩
  | true =>
    rw [hf] at HF
    rw [Bool.true_and]
    have HI := Aside0.mk (fun (W : World) (h : MemoAt W AN cN N AG cG G AP cP P) => first_calls h hf)
    clear hf
    obtain ⟨T, hT⟩ : ∃ T, T = confS N G P := ⟨_, rfl⟩
    rw [← hT] at HI ⊢
    obtain ⟨g1, e1⟩ : ∃ g1, g1 = (firstR T).1 := ⟨_, rfl⟩
    obtain ⟨g2, e2⟩ : ∃ g2, g2 = (firstR T).2.1 := ⟨_, rfl⟩
    rw [← e1, ← e2] at HI
    obtain ⟨z, e3⟩ : ∃ z, z = T.isNone := ⟨_, rfl⟩
    rw [← e3] at HI ⊢
    clear hT e1 e2 e3
    go_enter Try.func41, Try.ntmps41
    go_wp2_with (first | (go_at_call 77; (refine HF.out.mono ?_; rintro e w1 ⟨rfl, hb1⟩; have HB1 := Aside0.mk hb1; obtain ⟨ha0, ha1, ha2⟩ := (HBX.out.below hb1).cells; clear hb1)) | (go_at_call 76; (refine (HI.out _ ((H.out.below (below_alloc (Below.refl _ _) _)).below HB1.out)).mono ?_; rintro e w2 ⟨bm, rfl, hb2, _⟩; have HB2 := Aside0.mk hb2; clear hb2)))
    go_ret
    exact ⟨rfl, below_then (below_alloc (Below.refl _ _) _) (by simp) (HB1.out.trans ((below_alloc HB2.out _).mono HB1.out.size))⟩
def memo_May.f (l0_0 : List (S48)) (l0_1 : List Int) (l0_2 : List Int) : Option (Bool) := some (mayMB l0_0 l0_1 l0_2)
theorem memo_May.calls (A0_0 : Option Addr) (c0_0 : Nat) (l0_0 : List (S48)) (A0_1 : Option Addr) (c0_1 : Nat) (l0_1 : List Int) (A0_2 : Option Addr) (c0_2 : Nat) (l0_2 : List Int) (r : Bool) (w : World) (hr0_0 : Kd.C k48 w A0_0 l0_0.length l0_0) (hc0_0 : l0_0.length ≤ c0_0) (hr0_1 : Kd.C (Kd.int .i64) w A0_1 l0_1.length l0_1) (hc0_1 : l0_1.length ≤ c0_1) (hr0_2 : Kd.C (Kd.int .i64) w A0_2 l0_2.length l0_2) (hc0_2 : l0_2.length ≤ c0_2) (h : memo_May.f l0_0 l0_1 l0_2 = some r) :
    Calls Try.prog 41 #[.agg #[.slice A0_0 l0_0.length c0_0, .slice A0_1 l0_1.length c0_1, .slice A0_2 l0_2.length c0_2]] w fun e w' => e = .returned (.bool r) ∧ Below w.heap.size w w' := by
  obtain rfl := Option.some.inj h
  exact mmay_calls ⟨hr0_0, hc0_0, hr0_1, hc0_1, hr0_2, hc0_2⟩
end Go.Proofs.Ytkidnomkfdnciaa.All
namespace Go.Proofs.Ytkidnomkfdnciaa.All
open Go.RowKit Go.Proofs.YtkidnomkfdnciaaW.PrintWords Go.Proofs.YtkidnomkfdnciaaW.PrintLast Go.Proofs.YtkidnomkfdnciaaW.PrintMore
attribute [local go_sem] max2_int min2_int max_two min_two max_three min_three max_four min_four
set_option linter.unusedVariables false
set_option linter.unusedSimpArgs false
def memo_Find.f (k : Nat) (l0_0 : List (S48)) (l0_1 : List Int) (l0_2 : List Int) (a1 : Int) : Option (Int) := (sets_Find.f k l0_2 a1).bind fun t12 => (some t12)
set_option maxHeartbeats 8000000 in
set_option maxRecDepth 100000 in
theorem memo_Find.calls (k : Nat) (A0_0 : Option Addr) (c0_0 : Nat) (l0_0 : List (S48)) (A0_1 : Option Addr) (c0_1 : Nat) (l0_1 : List Int) (A0_2 : Option Addr) (c0_2 : Nat) (l0_2 : List Int) (a1 : Int) (r : Int) (w : World) (hr0_0 : Kd.C k48 w A0_0 l0_0.length l0_0) (hc0_0 : l0_0.length ≤ c0_0) (hr0_1 : Kd.C (Kd.int .i64) w A0_1 l0_1.length l0_1) (hc0_1 : l0_1.length ≤ c0_1) (hr0_2 : Kd.C (Kd.int .i64) w A0_2 l0_2.length l0_2) (hc0_2 : l0_2.length ≤ c0_2) (h : memo_Find.f k l0_0 l0_1 l0_2 a1 = some r) :
  Calls Try.prog 42 #[.agg #[.slice A0_0 l0_0.length c0_0, .slice A0_1 l0_1.length c0_1, .slice A0_2 l0_2.length c0_2], .int .i64 a1] w fun e w' => e = .returned (.int .i64 r) ∧ Below w.heap.size w w' := by
 have hu38 := Try.underlying38
 have HR0_0 := Aside0.mk hr0_0
 have HC0_0 := Aside0.mk hc0_0
 clear hr0_0 hc0_0
 have HR0_1 := Aside0.mk hr0_1
 have HC0_1 := Aside0.mk hc0_1
 clear hr0_1 hc0_1
 have HR0_2 := Aside0.mk hr0_2
 have HC0_2 := Aside0.mk hc0_2
 clear hr0_2 hc0_2
 have HB := Aside0.mk (Below.refl w.heap.size w)
 have H : ((sets_Find.f k l0_2 a1).bind fun t12 => (some t12)) = some r := h
 clear h
 replace H := Option.bind_eq_some_iff.mp H
 obtain ⟨t12, A30, H⟩ := H
 replace H : (some t12) = some r := H
 have A3 := Aside0.mk A30
 clear A30
 obtain rfl := Option.some.inj H
 go_enter Try.func42, Try.ntmps42
 go_wp2_with (first | ((with_reducible refine gate_dst (N := 2) rfl ?_); refine box_event ?hg (N := 2) ?hd (cs := #[.slice A0_0 l0_0.length c0_0, .slice A0_1 l0_1.length c0_1, .slice A0_2 l0_2.length c0_2]) (t := 38) ?hr ?_; (case hd => rfl); (case hg => rfl); (case hr => first | (go_simp; done) | (go_simp; rfl)); intro gb11 hg w4 hbox hb; have n0_ := Aside0.mk (below_step (by repeat (first | (with_reducible first | exact HB.out | apply below_alloc | apply pw_below_drewN | apply below_drew1) | exact HB.out)) hb); have n1_ := Aside0.mk (hbox); have n2_ := Aside0.mk ((by rw [hg]; exact (below_size (by repeat (first | (with_reducible first | exact HB.out | apply below_alloc | apply pw_below_drewN | apply below_drew1) | exact HB.out))) : w.heap.size ≤ gb11)); have n3_ := Aside0.mk ((by rw [hg]; exact (below_size (by repeat (first | (with_reducible first | exact HB.out | apply below_alloc | apply pw_below_drewN | apply below_drew1) | exact HB.out))) : w.heap.size ≤ gb11)); clear HB; have HB := n0_; have BK11 := n1_; have GW11 := n2_; have GE11 := n3_; clear n0_ n1_ n2_ n3_; clear hb hbox hg; have hcz5_0 : w4.cell? ⟨gb11, 0, none⟩ = some (.slice A0_0 l0_0.length c0_0) := (blk_cell BK11.out 0).trans rfl; have hcz5_1 : w4.cell? ⟨gb11, 1, none⟩ = some (.slice A0_1 l0_1.length c0_1) := (blk_cell BK11.out 1).trans rfl; have hcz5_2 : w4.cell? ⟨gb11, 2, none⟩ = some (.slice A0_2 l0_2.length c0_2) := (blk_cell BK11.out 2).trans rfl; have hfz5_0 := blk_frozen BK11.out 0; have hfz5_1 := blk_frozen BK11.out 1; have hfz5_2 := blk_frozen BK11.out 2) | ((with_reducible refine gate_callee (f := 26) rfl ?_); refine goesL_ (some 8) rfl rfl Try.func26 (by kernel_rfl) rfl #[.slice A0_2 l0_2.length c0_2, .int .i64 a1] rfl (by (try simp only [List.map_toArray, List.map_cons, List.map_nil]); first | done | rfl | (simp only [List.length_drop, List.length_take]; rfl)) ?_; (with_reducible refine (sets_Find.calls k _ _ l0_2 a1 t12 _ ?side1 ?side2 A3.out).mono ?_); (case side1 => repeat (first | exact (Kd.C_below HR0_2.out HB.out) | (with_reducible refine Kd.C_alloc ?_ _) | (with_reducible refine Kd.C_drewN ?_ _) | (with_reducible refine Kd.C_drew ?_))); (case side2 => exact HC0_2.out); rintro e w' ⟨rfl, ⟨nd, rfl⟩⟩; refine ⟨_, rfl, ?_⟩))
 go_ret
 exact ⟨by first | rfl | (simp [errW_none, errW_some] <;> rfl) | (simp [*, errW_none, errW_some] <;> rfl), by repeat (first | (with_reducible first | exact HB.out | apply below_alloc | apply pw_below_drewN | apply below_drew1 | refine below_set ?_ GE11.out) | exact HB.out)⟩
end Go.Proofs.Ytkidnomkfdnciaa.All
