/- Functions of the program as plain Lean functions, and proofs that the calls do what these say; written for this claim by a program of the session (wip/tools/mkprint.py), checked by Lean. -/
import Derived.Test.YtkidnomkfdnciaaAllx0
import Derived.Test.YtkidnomkfdnciaaBk
import Derived.Test.YtkidnomkfdnciaaAllx4
import Derived.Test.YtkidnomkfdnciaaAllx6
import Derived.Test.YtkidnomkfdnciaaAllx14
namespace Go.Proofs.Ytkidnomkfdnciaa.All
open Go.RowKit Go.Proofs.YtkidnomkfdnciaaW.PrintWords Go.Proofs.YtkidnomkfdnciaaW.PrintLast Go.Proofs.YtkidnomkfdnciaaW.PrintMore
attribute [local go_sem] max2_int min2_int max_two min_two max_three min_three max_four min_four   -- for this text's walks alone
set_option linter.unusedVariables false
set_option linter.unusedSimpArgs false

/-! ### memo_Canon: function 44 -/
def memo_Canon.j0 : Nat → Bool → List (S48) → List Int → List Int → Bool → Int → Int → Int → Option (Bool × Int × Int × Int)
 | 0, _, _, _, _, _, _, _, _ => none
 | k + 1, x14, x12000, x12001, x12002, x13000, x13001, x13002, x13003 => if x14 = true then (some (x13000, x13001, x13002, x13003)) else ((sets_Roots.f k x12002).bind fun t16 => ((memo_canon.f x13000 x13001 x13002 x13003 t16).bind fun bt19 => (some (bt19.1, bt19.2.1, bt19.2.2.1, bt19.2.2.2))))
def memo_Canon.f (k : Nat) (l0_0 : List (S48)) (l0_1 : List Int) (l0_2 : List Int) (a1_0 : Bool) (a1_1 : Int) (a1_2 : Int) (a1_3 : Int) : Option (Bool × Int × Int × Int) := (sets_May.f k l0_2).bind fun t14 => (if t14 = true then ((memo_node.f l0_0 l0_1 l0_2 a1_0 a1_1 a1_2 a1_3).bind fun t15 => (memo_Canon.j0 k (!t15) l0_0 l0_1 l0_2 a1_0 a1_1 a1_2 a1_3)) else (memo_Canon.j0 k true l0_0 l0_1 l0_2 a1_0 a1_1 a1_2 a1_3))
set_option maxHeartbeats 8000000 in
set_option maxRecDepth 100000 in
theorem memo_Canon.calls (k : Nat) (A0_0 : Option Addr) (c0_0 : Nat) (l0_0 : List (S48)) (A0_1 : Option Addr) (c0_1 : Nat) (l0_1 : List Int) (A0_2 : Option Addr) (c0_2 : Nat) (l0_2 : List Int) (a1_0 : Bool) (a1_1 : Int) (a1_2 : Int) (a1_3 : Int) (r1 : Bool) (r2 : Int) (r3 : Int) (r4 : Int) (w : World) (hr0_0 : Kd.C k48 w A0_0 l0_0.length l0_0) (hc0_0 : l0_0.length ≤ c0_0) (hr0_1 : Kd.C (Kd.int .i64) w A0_1 l0_1.length l0_1) (hc0_1 : l0_1.length ≤ c0_1) (hr0_2 : Kd.C (Kd.int .i64) w A0_2 l0_2.length l0_2) (hc0_2 : l0_2.length ≤ c0_2) (h : memo_Canon.f k l0_0 l0_1 l0_2 a1_0 a1_1 a1_2 a1_3 = some (r1, r2, r3, r4)) :
  Calls Try.prog 44 #[.agg #[.slice A0_0 l0_0.length c0_0, .slice A0_1 l0_1.length c0_1, .slice A0_2 l0_2.length c0_2], .agg #[.bool a1_0, .int .i64 a1_1, .int .i64 a1_2, .int .i64 a1_3]] w fun e w' => e = .returned (.agg #[.bool r1, .int .i64 r2, .int .i64 r3, .int .i64 r4]) ∧ Below w.heap.size w w' := by
 have hu38 := Try.underlying38
 have hu48 := Try.underlying48
 have HR0_0 := Aside0.mk hr0_0
 have HC0_0 := Aside0.mk hc0_0
 clear hr0_0 hc0_0
 have HR0_1 := Aside0.mk hr0_1
 have HC0_1 := Aside0.mk hc0_1
 clear hr0_1 hc0_1
 have HR0_2 := Aside0.mk hr0_2
 have HC0_2 := Aside0.mk hc0_2
 clear hr0_2 hc0_2
 have HB := Aside0.mk (Below.refl w.heap.size w)
 have H : ((sets_May.f k l0_2).bind fun t14 => (if t14 = true then ((memo_node.f l0_0 l0_1 l0_2 a1_0 a1_1 a1_2 a1_3).bind fun t15 => (memo_Canon.j0 k (!t15) l0_0 l0_1 l0_2 a1_0 a1_1 a1_2 a1_3)) else (memo_Canon.j0 k true l0_0 l0_1 l0_2 a1_0 a1_1 a1_2 a1_3))) = some (r1, r2, r3, r4) := h
 clear h
 have HC3 := Aside0.mk H
 clear H
 go_enter Try.func44, Try.ntmps44
 go_upto_region 1 with (first | ((with_reducible refine gate_dst (N := 2) rfl ?_); refine box_event ?hg (N := 2) ?hd (cs := #[.slice A0_0 l0_0.length c0_0, .slice A0_1 l0_1.length c0_1, .slice A0_2 l0_2.length c0_2]) (t := 38) ?hr ?_; (case hd => rfl); (case hg => rfl); (case hr => first | (go_simp; done) ); intro gb11 hg w4 hbox hb; have n0_ := Aside0.mk (below_step (by repeat ((with_reducible first | exact HB.out ))) hb); have n1_ := Aside0.mk (hbox); have n2_ := Aside0.mk ((by rw [hg]; exact (below_size (by repeat ((with_reducible first | exact HB.out )))) : w.heap.size ≤ gb11)); have n3_ := Aside0.mk ((by rw [hg]; exact (below_size (by repeat ((with_reducible first | exact HB.out )))) : w.heap.size ≤ gb11)); clear HB; have HB := n0_; have BK11 := n1_; have GW11 := n2_; have GE11 := n3_; clear n0_ n1_ n2_ n3_; clear hb hbox hg) | ((with_reducible refine gate_dst (N := 3) rfl ?_); refine box_event ?hg (N := 3) ?hd (cs := #[.bool a1_0, .int .i64 a1_1, .int .i64 a1_2, .int .i64 a1_3]) (t := 48) ?hr ?_; (case hd => rfl); (case hg => rfl); (case hr => first | (go_simp; done) ); intro gb12 hg w5 hbox hb; have n0_ := Aside0.mk (blk_below (g := gb11) (o := .cells #[.slice A0_0 l0_0.length c0_0, .slice A0_1 l0_1.length c0_1, .slice A0_2 l0_2.length c0_2] 38 (0, 0)) (by (with_reducible repeat (first | refine blk_drewN ?_ _ | refine blk_drew ?_ | refine blk_alloc ?_ _)); exact BK11.out) hb); have n1_ := Aside0.mk (below_step (by repeat ((with_reducible first | exact HB.out ))) hb); have n2_ := Aside0.mk (hbox); have n3_ := Aside0.mk ((by rw [hg]; exact (below_size (by repeat ((with_reducible first | exact HB.out )))) : w.heap.size ≤ gb12)); have n4_ := Aside0.mk ((by rw [hg]; exact (below_size (by repeat ((with_reducible first | exact HB.out )))) : w.heap.size ≤ gb12)); have n5_ := Aside0.mk ((by rw [hg]; exact Nat.ne_of_lt (blk_lt (g := gb11) (o := .cells #[.slice A0_0 l0_0.length c0_0, .slice A0_1 l0_1.length c0_1, .slice A0_2 l0_2.length c0_2] 38 (0, 0)) (by (with_reducible repeat (first | refine blk_drewN ?_ _ | refine blk_drew ?_ | refine blk_alloc ?_ _)); exact BK11.out)) : gb11 ≠ gb12)); have n6_ := Aside0.mk ((by rw [hg]; exact Nat.ne_of_gt (blk_lt (g := gb11) (o := .cells #[.slice A0_0 l0_0.length c0_0, .slice A0_1 l0_1.length c0_1, .slice A0_2 l0_2.length c0_2] 38 (0, 0)) (by (with_reducible repeat (first | refine blk_drewN ?_ _ | refine blk_drew ?_ | refine blk_alloc ?_ _)); exact BK11.out)) : gb12 ≠ gb11)); clear BK11; clear HB; have BK11 := n0_; have HB := n1_; have BK12 := n2_; have GW12 := n3_; have GE12 := n4_; have NB11_12 := n5_; have NB12_11 := n6_; clear n0_ n1_ n2_ n3_ n4_ n5_ n6_; clear hb hbox hg) | ((with_reducible refine gate_dst (N := 4) rfl ?_); refine box_event ?hg (N := 4) ?hd (cs := #[.bool false, .int .i64 0, .int .i64 0, .int .i64 0]) (t := 48) ?hr ?_; (case hd => rfl); (case hg => rfl); (case hr => first | (go_simp; done) ); intro gb13 hg w6 hbox hb; have n0_ := Aside0.mk (blk_below (g := gb11) (o := .cells #[.slice A0_0 l0_0.length c0_0, .slice A0_1 l0_1.length c0_1, .slice A0_2 l0_2.length c0_2] 38 (0, 0)) (by (with_reducible repeat (first | refine blk_drewN ?_ _ | refine blk_drew ?_ | refine blk_alloc ?_ _)); exact BK11.out) hb); have n1_ := Aside0.mk (blk_below (g := gb12) (o := .cells #[.bool a1_0, .int .i64 a1_1, .int .i64 a1_2, .int .i64 a1_3] 48 (0, 0)) (by (with_reducible repeat (first | refine blk_drewN ?_ _ | refine blk_drew ?_ | refine blk_alloc ?_ _)); exact BK12.out) hb); have n2_ := Aside0.mk (below_step (by repeat ((with_reducible first | exact HB.out ))) hb); have n3_ := Aside0.mk (hbox); have n4_ := Aside0.mk ((by rw [hg]; exact (below_size (by repeat ((with_reducible first | exact HB.out )))) : w.heap.size ≤ gb13)); have n5_ := Aside0.mk ((by rw [hg]; exact (below_size (by repeat ((with_reducible first | exact HB.out )))) : w.heap.size ≤ gb13)); have n6_ := Aside0.mk ((by rw [hg]; exact Nat.ne_of_lt (blk_lt (g := gb11) (o := .cells #[.slice A0_0 l0_0.length c0_0, .slice A0_1 l0_1.length c0_1, .slice A0_2 l0_2.length c0_2] 38 (0, 0)) (by (with_reducible repeat (first | refine blk_drewN ?_ _ | refine blk_drew ?_ | refine blk_alloc ?_ _)); exact BK11.out)) : gb11 ≠ gb13)); have n7_ := Aside0.mk ((by rw [hg]; exact Nat.ne_of_gt (blk_lt (g := gb11) (o := .cells #[.slice A0_0 l0_0.length c0_0, .slice A0_1 l0_1.length c0_1, .slice A0_2 l0_2.length c0_2] 38 (0, 0)) (by (with_reducible repeat (first | refine blk_drewN ?_ _ | refine blk_drew ?_ | refine blk_alloc ?_ _)); exact BK11.out)) : gb13 ≠ gb11)); have n8_ := Aside0.mk ((by rw [hg]; exact Nat.ne_of_lt (blk_lt (g := gb12) (o := .cells #[.bool a1_0, .int .i64 a1_1, .int .i64 a1_2, .int .i64 a1_3] 48 (0, 0)) (by (with_reducible repeat (first | refine blk_drewN ?_ _ | refine blk_drew ?_ | refine blk_alloc ?_ _)); exact BK12.out)) : gb12 ≠ gb13)); have n9_ := Aside0.mk ((by rw [hg]; exact Nat.ne_of_gt (blk_lt (g := gb12) (o := .cells #[.bool a1_0, .int .i64 a1_1, .int .i64 a1_2, .int .i64 a1_3] 48 (0, 0)) (by (with_reducible repeat (first | refine blk_drewN ?_ _ | refine blk_drew ?_ | refine blk_alloc ?_ _)); exact BK12.out)) : gb13 ≠ gb12)); clear BK11; clear BK12; clear HB; have BK11 := n0_; have BK12 := n1_; have HB := n2_; have BK13 := n3_; have GW13 := n4_; have GE13 := n5_; have NB11_13 := n6_; have NB13_11 := n7_; have NB12_13 := n8_; have NB13_12 := n9_; clear n0_ n1_ n2_ n3_ n4_ n5_ n6_ n7_ n8_ n9_; clear hb hbox hg))
 (try simp only [Act.put, List.setIfInBounds_toArray, List.set_cons_zero, List.set_cons_succ])
 go_cut [14] (fun v14 wc => ∃ (kq : Nat) (x14_2 : Bool), v14 = .bool x14_2 ∧ Aside0 (memo_Canon.j0 kq x14_2 l0_0 l0_1 l0_2 a1_0 a1_1 a1_2 a1_3 = some (r1, r2, r3, r4)) ∧ Aside0 (kq ≤ k) ∧ Aside0 (wc.heap[gb11]? = some (.cells #[(.slice A0_0 l0_0.length c0_0), (.slice A0_1 l0_1.length c0_1), (.slice A0_2 l0_2.length c0_2)] 38 (0, 0))) ∧ Aside0 (wc.heap[gb12]? = some (.cells #[.bool a1_0, .int .i64 a1_1, .int .i64 a1_2, .int .i64 a1_3] 48 (0, 0))) ∧ Aside0 (wc.heap[gb13]? = some (.cells #[.bool false, .int .i64 0, .int .i64 0, .int .i64 0] 48 (0, 0))) ∧ Aside0 (Below w.heap.size w wc))
 case first =>
  have H := HC3.out
  clear HC3
  replace H := Option.bind_eq_some_iff.mp H
  obtain ⟨t14, A70, H⟩ := H
  replace H : (if t14 = true then ((memo_node.f l0_0 l0_1 l0_2 a1_0 a1_1 a1_2 a1_3).bind fun t15 => (memo_Canon.j0 k (!t15) l0_0 l0_1 l0_2 a1_0 a1_1 a1_2 a1_3)) else (memo_Canon.j0 k true l0_0 l0_1 l0_2 a1_0 a1_1 a1_2 a1_3)) = some (r1, r2, r3, r4) := H
  have A7 := Aside0.mk A70
  clear A70
  by_cases c8 : t14 = true
  ·subst c8
   have H1 : ((memo_node.f l0_0 l0_1 l0_2 a1_0 a1_1 a1_2 a1_3).bind fun t15 => (memo_Canon.j0 k (!t15) l0_0 l0_1 l0_2 a1_0 a1_1 a1_2 a1_3)) = some (r1, r2, r3, r4) := by rw [if_pos rfl] at H; exact H
   clear H
   have H := H1
   clear H1
   replace H := Option.bind_eq_some_iff.mp H
   obtain ⟨t15, A90, H⟩ := H
   replace H : (memo_Canon.j0 k (!t15) l0_0 l0_1 l0_2 a1_0 a1_1 a1_2 a1_3) = some (r1, r2, r3, r4) := H
   have A9 := Aside0.mk A90
   clear A90
   have H' := Aside0.mk H
   clear H
   have hnb10 := NB11_12.out
   have hnc10 := NB12_11.out
   have hnb11 := NB11_13.out
   have hnc11 := NB13_11.out
   obtain ⟨hcz12_0, hcz12_1, hcz12_2, hfz12_0, hfz12_1, hfz12_2⟩ := bk3 BK11.out
   go_wp2_with (first | ((with_reducible refine gate_callee (f := 25) rfl ?_); refine goesL_ (some 7) rfl rfl Try.func25 (by kernel_rfl) rfl #[.slice A0_2 l0_2.length c0_2] rfl (by (try simp only [List.map_toArray, List.map_cons, List.map_nil]); first | rfl ) ?_; (with_reducible refine (sets_May.calls k _ _ l0_2 true _ ?side1 ?side2 A7.out).mono ?_); (case side1 => repeat (exact (Kd.C_below HR0_2.out HB.out))); (case side2 => exact HC0_2.out); rintro e w' ⟨rfl, ⟨nd, rfl⟩⟩; refine ⟨_, rfl, ?_⟩; have hnb13 := NB12_13.out; have hnc13 := NB13_12.out; obtain ⟨hcz14_0, hcz14_1, hcz14_2, hcz14_3, hfz14_0, hfz14_1, hfz14_2, hfz14_3⟩ := bk4 BK12.out) | (go_at_call 78; (with_reducible refine (memo_node.calls _ _ l0_0 _ _ l0_1 _ _ l0_2 a1_0 a1_1 a1_2 a1_3 t15 _ ?side1 ?side2 ?side3 ?side4 ?side5 ?side6 A9.out).mono ?_); (case side1 => repeat (exact (Kd.C_below HR0_0.out (by repeat ((with_reducible first | exact HB.out | apply pw_below_drewN )))))); (case side2 => exact HC0_0.out); (case side3 => repeat (exact (Kd.C_below HR0_1.out (by repeat ((with_reducible first | exact HB.out | apply pw_below_drewN )))))); (case side4 => exact HC0_1.out); (case side5 => repeat (exact (Kd.C_below HR0_2.out (by repeat ((with_reducible first | exact HB.out | apply pw_below_drewN )))))); (case side6 => exact HC0_2.out); rintro e w15 ⟨rfl, hb⟩; have n0_ := Aside0.mk (blk_below (g := gb11) (o := .cells #[.slice A0_0 l0_0.length c0_0, .slice A0_1 l0_1.length c0_1, .slice A0_2 l0_2.length c0_2] 38 (0, 0)) (by (with_reducible repeat (refine blk_drewN ?_ _)); exact BK11.out) hb); have n1_ := Aside0.mk (blk_below (g := gb12) (o := .cells #[.bool a1_0, .int .i64 a1_1, .int .i64 a1_2, .int .i64 a1_3] 48 (0, 0)) (by (with_reducible repeat (refine blk_drewN ?_ _)); exact BK12.out) hb); have n2_ := Aside0.mk (blk_below (g := gb13) (o := .cells #[.bool false, .int .i64 0, .int .i64 0, .int .i64 0] 48 (0, 0)) (by (with_reducible repeat (refine blk_drewN ?_ _)); exact BK13.out) hb); have n3_ := Aside0.mk (below_step (by repeat ((with_reducible first | exact HB.out | apply pw_below_drewN ))) hb); clear BK11; clear BK12; clear BK13; clear HB; have BK11 := n0_; have BK12 := n1_; have BK13 := n2_; have HB := n3_; clear n0_ n1_ n2_ n3_; (try clear hb); ))
   go_meet
   case rel => exact ⟨_, (!t15), (by rfl), H', ⟨by omega⟩, ⟨by (with_reducible repeat (first | refine blk_drewN ?_ _ | refine blk_drew ?_ | refine blk_alloc ?_ _)); exact BK11.out⟩, ⟨by (with_reducible repeat (first | refine blk_drewN ?_ _ | refine blk_drew ?_ | refine blk_alloc ?_ _)); exact BK12.out⟩, ⟨by (with_reducible repeat (first | refine blk_drewN ?_ _ | refine blk_drew ?_ | refine blk_alloc ?_ _)); exact BK13.out⟩, ⟨by repeat ((with_reducible first | exact HB.out ))⟩⟩
  ·replace c8 := Bool.eq_false_iff.mpr c8
   subst c8
   have H1 : (memo_Canon.j0 k true l0_0 l0_1 l0_2 a1_0 a1_1 a1_2 a1_3) = some (r1, r2, r3, r4) := by rw [if_neg (show ¬ (false = true) by decide)] at H; exact H
   clear H
   have H := H1
   clear H1
   have H' := Aside0.mk H
   clear H
   have hnb16 := NB11_12.out
   have hnc16 := NB12_11.out
   have hnb17 := NB11_13.out
   have hnc17 := NB13_11.out
   obtain ⟨hcz18_0, hcz18_1, hcz18_2, hfz18_0, hfz18_1, hfz18_2⟩ := bk3 BK11.out
   go_wp2_with (((with_reducible refine gate_callee (f := 25) rfl ?_); refine goesL_ (some 7) rfl rfl Try.func25 (by kernel_rfl) rfl #[.slice A0_2 l0_2.length c0_2] rfl (by (try simp only [List.map_toArray, List.map_cons, List.map_nil]); first | rfl ) ?_; (with_reducible refine (sets_May.calls k _ _ l0_2 false _ ?side1 ?side2 A7.out).mono ?_); (case side1 => repeat (exact (Kd.C_below HR0_2.out HB.out))); (case side2 => exact HC0_2.out); rintro e w' ⟨rfl, ⟨nd, rfl⟩⟩; refine ⟨_, rfl, ?_⟩))
   go_meet
   case rel => exact ⟨_, (true), (by rfl), H', ⟨by omega⟩, ⟨by (with_reducible repeat (refine blk_drewN ?_ _)); exact BK11.out⟩, ⟨by (with_reducible repeat (refine blk_drewN ?_ _)); exact BK12.out⟩, ⟨by (with_reducible repeat (refine blk_drewN ?_ _)); exact BK13.out⟩, ⟨by repeat ((with_reducible first | exact HB.out | apply pw_below_drewN ))⟩⟩
 case rest =>
  clear HC3
  obtain ⟨kq, x14_2, rfl, HA, HJ2, BK11, BK12, BK13, HB⟩ := hcut
  cases kq with
  | zero => exact absurd HA.out (by simp [memo_Canon.j0])
  | succ kj2 =>
   have H := HA.out
   clear HA
   simp only [memo_Canon.j0] at H
   by_cases c19 : x14_2 = true
   ·subst c19
    have H1 : (some (a1_0, a1_1, a1_2, a1_3)) = some (r1, r2, r3, r4) := by rw [if_pos rfl] at H; exact H
    clear H
    have H := H1
    clear H1
    simp only [Option.some.injEq, Prod.mk.injEq] at H
    obtain ⟨rfl, rfl, rfl, rfl⟩ := H
    have hnb20 := NB12_11.out
    have hnc20 := NB11_12.out
    have hnb21 := NB12_13.out
    have hnc21 := NB13_12.out
    obtain ⟨hcz22_0, hcz22_1, hcz22_2, hcz22_3, hfz22_0, hfz22_1, hfz22_2, hfz22_3⟩ := bk4 BK12.out
    have hnb23 := NB13_11.out
    have hnc23 := NB11_13.out
    obtain ⟨hcz24_0, hcz24_1, hcz24_2, hcz24_3, hfz24_0, hfz24_1, hfz24_2, hfz24_3⟩ := bk4 BK13.out
    go_wp2
    refine bodyPost_ret (results_cell_row rfl _ _ gb13 48 #[.bool a1_0, .int .i64 a1_1, .int .i64 a1_2, .int .i64 a1_3] (0, 0) _ rfl (by (with_reducible repeat (first | refine blk_drewN ?_ _ | refine blk_drew ?_ | refine blk_alloc ?_ _)); refine blk_put (cs := #[.bool a1_0, .int .i64 a1_1, .int .i64 a1_2, .int .i64 0]) ?_ 3 _ rfl; (with_reducible repeat (first | refine blk_drewN ?_ _ | refine blk_drew ?_ | refine blk_alloc ?_ _)); refine blk_put (cs := #[.bool a1_0, .int .i64 a1_1, .int .i64 0, .int .i64 0]) ?_ 2 _ rfl; (with_reducible repeat (first | refine blk_drewN ?_ _ | refine blk_drew ?_ | refine blk_alloc ?_ _)); refine blk_put (cs := #[.bool a1_0, .int .i64 0, .int .i64 0, .int .i64 0]) ?_ 1 _ rfl; (with_reducible repeat (first | refine blk_drewN ?_ _ | refine blk_drew ?_ | refine blk_alloc ?_ _)); refine blk_put (cs := #[.bool false, .int .i64 0, .int .i64 0, .int .i64 0]) ?_ 0 _ rfl; (with_reducible repeat (first | refine blk_drewN ?_ _ | refine blk_drew ?_ | refine blk_alloc ?_ _)); exact BK13.out) Try.underlying48 rfl (by kernel_rfl)) rfl ?_
    exact ⟨by rfl, by repeat ((with_reducible first | exact HB.out | refine below_set ?_ GE13.out))⟩
   ·replace c19 := Bool.eq_false_iff.mpr c19
    subst c19
    have H1 : ((sets_Roots.f kj2 l0_2).bind fun t16 => ((memo_canon.f a1_0 a1_1 a1_2 a1_3 t16).bind fun bt19 => (some (bt19.1, bt19.2.1, bt19.2.2.1, bt19.2.2.2)))) = some (r1, r2, r3, r4) := by rw [if_neg (show ¬ (false = true) by decide)] at H; exact H
    clear H
    have H := H1
    clear H1
    replace H := Option.bind_eq_some_iff.mp H
    obtain ⟨t16, A250, H⟩ := H
    replace H : ((memo_canon.f a1_0 a1_1 a1_2 a1_3 t16).bind fun bt19 => (some (bt19.1, bt19.2.1, bt19.2.2.1, bt19.2.2.2))) = some (r1, r2, r3, r4) := H
    have A25 := Aside0.mk A250
    clear A250
    replace H := Option.bind_eq_some_iff.mp H
    obtain ⟨⟨t19, t20, t21, t22⟩, A260, H⟩ := H
    replace H : (some (t19, t20, t21, t22)) = some (r1, r2, r3, r4) := H
    have A26 := Aside0.mk A260
    clear A260
    simp only [Option.some.injEq, Prod.mk.injEq] at H
    obtain ⟨rfl, rfl, rfl, rfl⟩ := H
    try go_wp2
    have n0_ := Aside0.mk (blk_drew BK11.out)
    have n1_ := Aside0.mk (blk_drew BK12.out)
    have n2_ := Aside0.mk (blk_drew BK13.out)
    have n3_ := Aside0.mk (below_drew1 HB.out)
    clear BK11
    clear BK12
    clear BK13
    clear HB
    have BK11 := n0_
    have BK12 := n1_
    have BK13 := n2_
    have HB := n3_
    clear n0_ n1_ n2_ n3_
    refine start_ (n := 6) (S := fun w' => w'.cell? ⟨gb12, 0, none⟩ = some (.bool a1_0) ∧ w'.cell? ⟨gb12, 1, none⟩ = some (.int .i64 a1_1) ∧ w'.cell? ⟨gb12, 2, none⟩ = some (.int .i64 a1_2) ∧ w'.cell? ⟨gb12, 3, none⟩ = some (.int .i64 a1_3) ∧ w'.cell? ⟨gb11, 0, none⟩ = some (.slice A0_0 l0_0.length c0_0) ∧ w'.cell? ⟨gb11, 1, none⟩ = some (.slice A0_1 l0_1.length c0_1) ∧ w'.cell? ⟨gb11, 2, none⟩ = some (.slice A0_2 l0_2.length c0_2)) (ds := []) #[false, false, false, false, false, false] (by kernel_rfl) rfl rfl ⟨(blk_cell BK12.out 0).trans rfl, (blk_cell BK12.out 1).trans rfl, (blk_cell BK12.out 2).trans rfl, (blk_cell BK12.out 3).trans rfl, (blk_cell BK11.out 0).trans rfl, (blk_cell BK11.out 1).trans rfl, (blk_cell BK11.out 2).trans rfl⟩ (fun hHeld => ?_)
    generalize wc.drew = w27 at BK11 BK12 BK13 HB hHeld ⊢
    refine pure_ (i := 1) (N := some 17) (v := ?_) (a' := ?_) #[false, true, false, false, false, false] rfl rfl (by kernel_rfl) (fun _ _ _ h => h) (Or.inl ⟨by rfl, ?_⟩) ?_ ?_
    rotate_left
    ·intro w'
     go_simp
     with_reducible rfl
    rotate_left
    ·simp only [Act.put, List.setIfInBounds_toArray, List.set_cons_zero, List.set_cons_succ, i64_w, i32_w]
     rfl
    refine take_ (i := 0) (N := some 16) (v := ?_) (a' := ?_) #[true, true, false, false, false, false] rfl rfl (by kernel_rfl) (fun _ _ _ h => h) (Or.inl ⟨by rfl, ?_⟩) hHeld ?_ ?_
    rotate_left
    ·rintro w' ⟨s0, s1, s2, s3, s4, s5, s6⟩
     go_simp
     with_reducible rfl
    rotate_left
    ·simp only [Act.put, List.setIfInBounds_toArray, List.set_cons_zero, List.set_cons_succ, i64_w, i32_w]
     rfl
    refine take_ (i := 2) (N := some 18) (v := ?_) (a' := ?_) #[true, true, true, false, false, false] rfl rfl (by kernel_rfl) (fun _ _ _ h => h) (Or.inl ⟨by rfl, ?_⟩) hHeld ?_ ?_
    rotate_left
    ·rintro w' ⟨s0, s1, s2, s3, s4, s5, s6⟩
     go_simp
     with_reducible rfl
    rotate_left
    ·simp only [Act.put, List.setIfInBounds_toArray, List.set_cons_zero, List.set_cons_succ, i64_w, i32_w]
     rfl
    refine one_ (i := 3) (N := some 19) #[true, true, true, true, false, false] rfl rfl (by kernel_rfl) (by decide) (fun K hK => ?_)
    refine goes_ Try.func33 (by kernel_rfl) rfl #[.slice A0_2 l0_2.length c0_2] (by rfl) rfl rfl (by (try simp only [List.map_toArray, List.map_cons, List.map_nil]); first | rfl ) ?_
    with_reducible refine (sets_Roots.calls kj2 _ _ l0_2 t16 _ ?side1 ?side2 A25.out).mono ?_
    (case side1 => repeat (exact (Kd.C_below HR0_2.out HB.out)))
    (case side2 => exact HC0_2.out)
    rintro e w28 ⟨v17, rfl, ho0, hb⟩
    refine ⟨_, rfl, ?_⟩
    have n0_ := Aside0.mk (Kd.R_lower ho0 (below_size (by repeat ((with_reducible first | exact HB.out )))))
    have n1_ := Aside0.mk (blk_below (g := gb11) (o := .cells #[.slice A0_0 l0_0.length c0_0, .slice A0_1 l0_1.length c0_1, .slice A0_2 l0_2.length c0_2] 38 (0, 0)) (by (with_reducible repeat (first | refine blk_drewN ?_ _ | refine blk_drew ?_ | refine blk_alloc ?_ _)); exact BK11.out) hb)
    have n2_ := Aside0.mk (blk_below (g := gb12) (o := .cells #[.bool a1_0, .int .i64 a1_1, .int .i64 a1_2, .int .i64 a1_3] 48 (0, 0)) (by (with_reducible repeat (first | refine blk_drewN ?_ _ | refine blk_drew ?_ | refine blk_alloc ?_ _)); exact BK12.out) hb)
    have n3_ := Aside0.mk (blk_below (g := gb13) (o := .cells #[.bool false, .int .i64 0, .int .i64 0, .int .i64 0] 48 (0, 0)) (by (with_reducible repeat (first | refine blk_drewN ?_ _ | refine blk_drew ?_ | refine blk_alloc ?_ _)); exact BK13.out) hb)
    have n4_ := Aside0.mk (below_step (by repeat ((with_reducible first | exact HB.out ))) hb)
    clear BK11
    clear BK12
    clear BK13
    clear HB
    have HO18 := n0_
    have BK11 := n1_
    have BK12 := n2_
    have BK13 := n3_
    have HB := n4_
    clear n0_ n1_ n2_ n3_ n4_
    (try clear hb)
    (try clear hb2)
    (try clear hk)
    (try clear hi)
    (try clear ho0)
    obtain ⟨Ao29, co29, eo29⟩ := Kd.R_slice HO18.out
    (subst eo29)
    refine hK.out _ _ ⟨(blk_cell BK12.out 0).trans rfl, (blk_cell BK12.out 1).trans rfl, (blk_cell BK12.out 2).trans rfl, (blk_cell BK12.out 3).trans rfl, (blk_cell BK11.out 0).trans rfl, (blk_cell BK11.out 1).trans rfl, (blk_cell BK11.out 2).trans rfl⟩ (fun hHeld => ?_)
    clear hK K
    refine norm_ (a' := ?_) ?_ ?_
    rotate_left
    ·show Act.put _ (some 19) _ = _
     simp only [Act.put, List.setIfInBounds_toArray, List.set_cons_zero, List.set_cons_succ, i64_w, i32_w]
     rfl
    refine one_ (i := 4) (N := some 20) #[true, true, true, true, true, false] rfl rfl (by kernel_rfl) (by decide) (fun K hK => ?_)
    refine goes_ Try.func79 (by kernel_rfl) rfl #[.agg #[.bool a1_0, .int .i64 a1_1, .int .i64 a1_2, .int .i64 a1_3], .slice Ao29 t16.length co29] (by rfl) rfl rfl (by (try simp only [List.map_toArray, List.map_cons, List.map_nil]); first | rfl ) ?_
    with_reducible refine (memo_canon.calls a1_0 a1_1 a1_2 a1_3 _ _ t16 t19 t20 t21 t22 _ ?side1 ?side2 A26.out).mono ?_
    (case side1 => repeat (exact (Kd.R_reads' HO18.out).2.2))
    (case side2 => exact (Kd.R_reads' HO18.out).2.1)
    rintro e w30 ⟨rfl, hb⟩
    refine ⟨_, rfl, ?_⟩
    have n0_ := Aside0.mk (Kd.R_below (by (with_reducible repeat (first | apply Kd.R_alloc | apply Kd.R_drewN | apply Kd.R_drew)); exact HO18.out) hb)
    have n1_ := Aside0.mk (blk_below (g := gb11) (o := .cells #[.slice A0_0 l0_0.length c0_0, .slice A0_1 l0_1.length c0_1, .slice A0_2 l0_2.length c0_2] 38 (0, 0)) (by (with_reducible repeat (first | refine blk_drewN ?_ _ | refine blk_drew ?_ | refine blk_alloc ?_ _)); exact BK11.out) hb)
    have n2_ := Aside0.mk (blk_below (g := gb12) (o := .cells #[.bool a1_0, .int .i64 a1_1, .int .i64 a1_2, .int .i64 a1_3] 48 (0, 0)) (by (with_reducible repeat (first | refine blk_drewN ?_ _ | refine blk_drew ?_ | refine blk_alloc ?_ _)); exact BK12.out) hb)
    have n3_ := Aside0.mk (blk_below (g := gb13) (o := .cells #[.bool false, .int .i64 0, .int .i64 0, .int .i64 0] 48 (0, 0)) (by (with_reducible repeat (first | refine blk_drewN ?_ _ | refine blk_drew ?_ | refine blk_alloc ?_ _)); exact BK13.out) hb)
    have n4_ := Aside0.mk (below_step (by repeat ((with_reducible first | exact HB.out ))) hb)
    clear HO18
    clear BK11
    clear BK12
    clear BK13
    clear HB
    have HO18 := n0_
    have BK11 := n1_
    have BK12 := n2_
    have BK13 := n3_
    have HB := n4_
    clear n0_ n1_ n2_ n3_ n4_
    (try clear hb)
    (try clear hb2)
    (try clear hk)
    (try clear hi)
    refine hK.out _ _ ⟨(blk_cell BK12.out 0).trans rfl, (blk_cell BK12.out 1).trans rfl, (blk_cell BK12.out 2).trans rfl, (blk_cell BK12.out 3).trans rfl, (blk_cell BK11.out 0).trans rfl, (blk_cell BK11.out 1).trans rfl, (blk_cell BK11.out 2).trans rfl⟩ (fun hHeld => ?_)
    clear hK K
    refine norm_ (a' := ?_) ?_ ?_
    rotate_left
    ·show Act.put _ (some 20) _ = _
     simp only [Act.put, List.setIfInBounds_toArray, List.set_cons_zero, List.set_cons_succ, i64_w, i32_w]
     rfl
    refine one_ (i := 5) (N := none) #[true, true, true, true, true, true] rfl rfl (by kernel_rfl) (by decide) (fun K hK => ?_)
    have hs31 : w30.cell? ⟨gb13, 0, none⟩ = some (.bool false) := (blk_cell BK13.out 0).trans rfl
    have hfs31 := blk_frozen BK13.out 0
    have hns31_0 := NB11_13.out
    have hns31_1 := NB12_13.out
    have hms31_0 := NB13_11.out
    have hms31_1 := NB13_12.out
    have hs32 : w30.cell? ⟨gb13, 1, none⟩ = some (.int .i64 0) := (blk_cell BK13.out 1).trans rfl
    have hfs32 := blk_frozen BK13.out 1
    have hns32_0 := NB11_13.out
    have hns32_1 := NB12_13.out
    have hms32_0 := NB13_11.out
    have hms32_1 := NB13_12.out
    have hs33 : w30.cell? ⟨gb13, 2, none⟩ = some (.int .i64 0) := (blk_cell BK13.out 2).trans rfl
    have hfs33 := blk_frozen BK13.out 2
    have hns33_0 := NB11_13.out
    have hns33_1 := NB12_13.out
    have hms33_0 := NB13_11.out
    have hms33_1 := NB13_12.out
    have hs34 : w30.cell? ⟨gb13, 3, none⟩ = some (.int .i64 0) := (blk_cell BK13.out 3).trans rfl
    have hfs34 := blk_frozen BK13.out 3
    have hns34_0 := NB11_13.out
    have hns34_1 := NB12_13.out
    have hms34_0 := NB13_11.out
    have hms34_1 := NB13_12.out
    refine skip_ (w1 := ?_) (by rfl) rfl ?_ ?_
    rotate_left
    ·go_simp
     rfl
    refine hK.out _ _ ⟨((cell_far (p := ⟨gb13, _, none⟩) NB12_13.out _).trans (((cell_far (p := ⟨gb13, _, none⟩) NB12_13.out _).trans (((cell_far (p := ⟨gb13, _, none⟩) NB12_13.out _).trans (((cell_far (p := ⟨gb13, _, none⟩) NB12_13.out _).trans (hHeld.1)))))))), ((cell_far (p := ⟨gb13, _, none⟩) NB12_13.out _).trans (((cell_far (p := ⟨gb13, _, none⟩) NB12_13.out _).trans (((cell_far (p := ⟨gb13, _, none⟩) NB12_13.out _).trans (((cell_far (p := ⟨gb13, _, none⟩) NB12_13.out _).trans (hHeld.2.1)))))))), ((cell_far (p := ⟨gb13, _, none⟩) NB12_13.out _).trans (((cell_far (p := ⟨gb13, _, none⟩) NB12_13.out _).trans (((cell_far (p := ⟨gb13, _, none⟩) NB12_13.out _).trans (((cell_far (p := ⟨gb13, _, none⟩) NB12_13.out _).trans (hHeld.2.2.1)))))))), ((cell_far (p := ⟨gb13, _, none⟩) NB12_13.out _).trans (((cell_far (p := ⟨gb13, _, none⟩) NB12_13.out _).trans (((cell_far (p := ⟨gb13, _, none⟩) NB12_13.out _).trans (((cell_far (p := ⟨gb13, _, none⟩) NB12_13.out _).trans (hHeld.2.2.2.1)))))))), ((cell_far (p := ⟨gb13, _, none⟩) NB11_13.out _).trans (((cell_far (p := ⟨gb13, _, none⟩) NB11_13.out _).trans (((cell_far (p := ⟨gb13, _, none⟩) NB11_13.out _).trans (((cell_far (p := ⟨gb13, _, none⟩) NB11_13.out _).trans (hHeld.2.2.2.2.1)))))))), ((cell_far (p := ⟨gb13, _, none⟩) NB11_13.out _).trans (((cell_far (p := ⟨gb13, _, none⟩) NB11_13.out _).trans (((cell_far (p := ⟨gb13, _, none⟩) NB11_13.out _).trans (((cell_far (p := ⟨gb13, _, none⟩) NB11_13.out _).trans (hHeld.2.2.2.2.2.1)))))))), ((cell_far (p := ⟨gb13, _, none⟩) NB11_13.out _).trans (((cell_far (p := ⟨gb13, _, none⟩) NB11_13.out _).trans (((cell_far (p := ⟨gb13, _, none⟩) NB11_13.out _).trans (((cell_far (p := ⟨gb13, _, none⟩) NB11_13.out _).trans (hHeld.2.2.2.2.2.2))))))))⟩ (fun hHeld => ?_)
    clear hK K
    refine done_ (by kernel_rfl) ?_
    try go_wp2
    refine bodyPost_ret (results_cell_row rfl _ _ gb13 48 #[.bool t19, .int .i64 t20, .int .i64 t21, .int .i64 t22] (0, 0) _ rfl (by (with_reducible repeat (first | refine blk_drewN ?_ _ | refine blk_drew ?_ | refine blk_alloc ?_ _)); refine blk_put (cs := #[.bool t19, .int .i64 t20, .int .i64 t21, .int .i64 0]) ?_ 3 _ rfl; (with_reducible repeat (first | refine blk_drewN ?_ _ | refine blk_drew ?_ | refine blk_alloc ?_ _)); refine blk_put (cs := #[.bool t19, .int .i64 t20, .int .i64 0, .int .i64 0]) ?_ 2 _ rfl; (with_reducible repeat (first | refine blk_drewN ?_ _ | refine blk_drew ?_ | refine blk_alloc ?_ _)); refine blk_put (cs := #[.bool t19, .int .i64 0, .int .i64 0, .int .i64 0]) ?_ 1 _ rfl; (with_reducible repeat (first | refine blk_drewN ?_ _ | refine blk_drew ?_ | refine blk_alloc ?_ _)); refine blk_put (cs := #[.bool false, .int .i64 0, .int .i64 0, .int .i64 0]) ?_ 0 _ rfl; (with_reducible repeat (first | refine blk_drewN ?_ _ | refine blk_drew ?_ | refine blk_alloc ?_ _)); exact BK13.out) Try.underlying48 rfl (by kernel_rfl)) rfl ?_
    exact ⟨by rfl, by repeat ((with_reducible first | exact HB.out | refine below_set ?_ GE13.out))⟩

end Go.Proofs.Ytkidnomkfdnciaa.All
