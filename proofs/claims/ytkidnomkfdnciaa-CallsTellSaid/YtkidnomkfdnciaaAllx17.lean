/- Functions of the program as plain Lean functions, and proofs that the calls do what these say; written for this claim by a program of the session (wip/tools/mkprint.py), checked by Lean. -/
import Derived.Test.YtkidnomkfdnciaaSets2
import Derived.Test.YtkidnomkfdnciaaBk
import Derived.Test.YtkidnomkfdnciaaAllx10
import Derived.Lib.QuietBelow
namespace Go.Proofs.Ytkidnomkfdnciaa.All
open Go.RowKit Go.Proofs.YtkidnomkfdnciaaW.PrintWords Go.Proofs.YtkidnomkfdnciaaW.PrintLast Go.Proofs.YtkidnomkfdnciaaW.PrintMore
attribute [local go_sem] max2_int min2_int max_two min_two max_three min_three max_four min_four
set_option linter.unusedVariables false
set_option linter.unusedSimpArgs false
def memo_own.f (k : Nat) (l0_0 : List (S48)) (l0_1 : List Int) (l0_2 : List Int) : Option ((List (S48)) × List Int × List Int) := (api_Node_94.f k l0_0).bind fun t13 => ((slices_Clone_int_int.f k l0_1).bind fun t16 => ((slices_Clone_int_int.f k l0_2).bind fun t19 => (some (t13, t16, t19))))
def memo_own.T1 : Bool × List (List Nat × List Nat) := (true, [([], []), ([0], [0]), ([1], [1]), ([], []), ([3], [3]), ([4, 2], [4]), ([], []), ([6], [6]), ([7, 5], [7]), ([2, 5, 8], [2, 5, 8]), ([9, 8, 0, 1, 2, 3, 4, 5, 6, 7, 8, 9], [9])])
def memo_own.B1 : List Nat := [0, 1, 3, 0, 8, 31, 0, 64, 255, 511, 1023]
theorem memo_own.tab1 : rtab .any (opsOf Try.f75 1) = memo_own.T1 := by kernel_rfl
theorem memo_own.bits1 : waitsOk memo_own.T1.2 memo_own.B1 = true := by kernel_rfl
set_option maxHeartbeats 8000000 in
set_option maxRecDepth 100000 in
theorem memo_own.calls (k : Nat) (A0_0 : Option Addr) (c0_0 : Nat) (l0_0 : List (S48)) (A0_1 : Option Addr) (c0_1 : Nat) (l0_1 : List Int) (A0_2 : Option Addr) (c0_2 : Nat) (l0_2 : List Int) (r1 : List (S48)) (r2 : List Int) (r3 : List Int) (w : World) (hr0_0 : Kd.C k48 w A0_0 l0_0.length l0_0) (hc0_0 : l0_0.length ≤ c0_0) (hr0_1 : Kd.C (Kd.int .i64) w A0_1 l0_1.length l0_1) (hc0_1 : l0_1.length ≤ c0_1) (hr0_2 : Kd.C (Kd.int .i64) w A0_2 l0_2.length l0_2) (hc0_2 : l0_2.length ≤ c0_2) (h : memo_own.f k l0_0 l0_1 l0_2 = some (r1, r2, r3)) :
  Calls Try.prog 75 #[.agg #[.slice A0_0 l0_0.length c0_0, .slice A0_1 l0_1.length c0_1, .slice A0_2 l0_2.length c0_2]] w fun e w' => ∃ v0_ v1_ v2_ : Value, e = .returned (.agg #[v0_, v1_, v2_]) ∧ Kd.R k48 48 w' w.heap.size (fun _ => True) v0_ r1 ∧ Kd.R (Kd.int .i64) 3 w' w.heap.size (fun k_ => some k_ ≠ (v2_ : Value).ownBlock) v1_ r2 ∧ Kd.R (Kd.int .i64) 3 w' w.heap.size (fun k_ => some k_ ≠ (v1_ : Value).ownBlock) v2_ r3 ∧ Below w.heap.size w w' := by
 have hu38 := Try.underlying38
 have HR0_0 := Aside0.mk hr0_0
 have HC0_0 := Aside0.mk hc0_0
 clear hr0_0 hc0_0
 have HR0_1 := Aside0.mk hr0_1
 have HC0_1 := Aside0.mk hc0_1
 clear hr0_1 hc0_1
 have HR0_2 := Aside0.mk hr0_2
 have HC0_2 := Aside0.mk hc0_2
 clear hr0_2 hc0_2
 have HB := Aside0.mk (Below.refl w.heap.size w)
 have H : ((api_Node_94.f k l0_0).bind fun t13 => ((slices_Clone_int_int.f k l0_1).bind fun t16 => ((slices_Clone_int_int.f k l0_2).bind fun t19 => (some (t13, t16, t19))))) = some (r1, r2, r3) := h
 clear h
 replace H := Option.bind_eq_some_iff.mp H
 obtain ⟨t13, A20, H⟩ := H
 replace H : ((slices_Clone_int_int.f k l0_1).bind fun t16 => ((slices_Clone_int_int.f k l0_2).bind fun t19 => (some (t13, t16, t19)))) = some (r1, r2, r3) := H
 have A2 := Aside0.mk A20
 clear A20
 replace H := Option.bind_eq_some_iff.mp H
 obtain ⟨t16, A30, H⟩ := H
 replace H : ((slices_Clone_int_int.f k l0_2).bind fun t19 => (some (t13, t16, t19))) = some (r1, r2, r3) := H
 have A3 := Aside0.mk A30
 clear A30
 replace H := Option.bind_eq_some_iff.mp H
 obtain ⟨t19, A40, H⟩ := H
 replace H : (some (t13, t16, t19)) = some (r1, r2, r3) := H
 have A4 := Aside0.mk A40
 clear A40
 simp only [Option.some.injEq, Prod.mk.injEq] at H
 obtain ⟨rfl, rfl, rfl⟩ := H
 go_enter Try.func75, Try.ntmps75
 try go_wp2_with (first | ((with_reducible refine gate_dst (N := 1) rfl ?_); refine box_event ?hg (N := 1) ?hd (cs := #[.slice A0_0 l0_0.length c0_0, .slice A0_1 l0_1.length c0_1, .slice A0_2 l0_2.length c0_2]) (t := 38) ?hr ?_; (case hd => rfl); (case hg => rfl); (case hr => first | (go_simp; done) ); intro gb11 hg w5 hbox hb; have n0_ := Aside0.mk (below_step (by repeat ((with_reducible first | exact HB.out ))) hb); have n1_ := Aside0.mk (hbox); have n2_ := Aside0.mk ((by rw [hg]; exact (below_size (by repeat ((with_reducible first | exact HB.out )))) : w.heap.size ≤ gb11)); have n3_ := Aside0.mk ((by rw [hg]; exact (below_size (by repeat ((with_reducible first | exact HB.out )))) : w.heap.size ≤ gb11)); clear HB; have HB := n0_; have BK11 := n1_; have GW11 := n2_; have GE11 := n3_; clear n0_ n1_ n2_ n3_; clear hb hbox hg) | ((with_reducible refine gate_dst (N := 2) rfl ?_); refine box_event ?hg (N := 2) ?hd (cs := #[.slice none 0 0, .slice none 0 0, .slice none 0 0]) (t := 38) ?hr ?_; (case hd => rfl); (case hg => rfl); (case hr => first | (go_simp; done) ); intro gb12 hg w6 hbox hb; have n0_ := Aside0.mk (blk_below (g := gb11) (o := .cells #[.slice A0_0 l0_0.length c0_0, .slice A0_1 l0_1.length c0_1, .slice A0_2 l0_2.length c0_2] 38 (0, 0)) (by (with_reducible repeat (first | refine blk_drewN ?_ _ | refine blk_drew ?_ | refine blk_alloc ?_ _)); exact BK11.out) hb); have n1_ := Aside0.mk (below_step (by repeat ((with_reducible first | exact HB.out ))) hb); have n2_ := Aside0.mk (hbox); have n3_ := Aside0.mk ((by rw [hg]; exact (below_size (by repeat ((with_reducible first | exact HB.out )))) : w.heap.size ≤ gb12)); have n4_ := Aside0.mk ((by rw [hg]; exact (below_size (by repeat ((with_reducible first | exact HB.out )))) : w.heap.size ≤ gb12)); have n5_ := Aside0.mk ((by rw [hg]; exact Nat.ne_of_lt (blk_lt (g := gb11) (o := .cells #[.slice A0_0 l0_0.length c0_0, .slice A0_1 l0_1.length c0_1, .slice A0_2 l0_2.length c0_2] 38 (0, 0)) (by (with_reducible repeat (first | refine blk_drewN ?_ _ | refine blk_drew ?_ | refine blk_alloc ?_ _)); exact BK11.out)) : gb11 ≠ gb12)); have n6_ := Aside0.mk ((by rw [hg]; exact Nat.ne_of_gt (blk_lt (g := gb11) (o := .cells #[.slice A0_0 l0_0.length c0_0, .slice A0_1 l0_1.length c0_1, .slice A0_2 l0_2.length c0_2] 38 (0, 0)) (by (with_reducible repeat (first | refine blk_drewN ?_ _ | refine blk_drew ?_ | refine blk_alloc ?_ _)); exact BK11.out)) : gb12 ≠ gb11)); clear BK11; clear HB; have BK11 := n0_; have HB := n1_; have BK12 := n2_; have GW12 := n3_; have GE12 := n4_; have NB11_12 := n5_; have NB12_11 := n6_; clear n0_ n1_ n2_ n3_ n4_ n5_ n6_; clear hb hbox hg))
 have n0_ := Aside0.mk (blk_drew BK11.out)
 have n1_ := Aside0.mk (blk_drew BK12.out)
 have n2_ := Aside0.mk (below_drew1 HB.out)
 clear BK11
 clear BK12
 clear HB
 have BK11 := n0_
 have BK12 := n1_
 have HB := n2_
 clear n0_ n1_ n2_
 refine start_ (n := 11) (S := fun w' => w'.cell? ⟨gb11, 0, none⟩ = some (.slice A0_0 l0_0.length c0_0) ∧ w'.cell? ⟨gb11, 1, none⟩ = some (.slice A0_1 l0_1.length c0_1) ∧ w'.cell? ⟨gb11, 2, none⟩ = some (.slice A0_2 l0_2.length c0_2)) (ds := []) #[false, false, false, false, false, false, false, false, false, false, false] (by kernel_rfl) rfl rfl ⟨(blk_cell BK11.out 0).trans rfl, (blk_cell BK11.out 1).trans rfl, (blk_cell BK11.out 2).trans rfl⟩ (fun hHeld => ?_); refine with_tabW memo_own.tab1 memo_own.bits1 (fun HT_ HW_ => ?_)
 generalize w6.drew = w7 at BK11 BK12 HB hHeld ⊢
 refine pure_ (i := 0) (N := some 3) (v := ?_) (a' := ?_) #[true, false, false, false, false, false, false, false, false, false, false] rfl rfl (any_of HT_.out (by kernel_rfl)) (fun _ _ _ h => h) (Or.inl ⟨by rfl, ?_⟩) ?_ ?_
 rotate_left
 ·intro w'
  go_simp
  with_reducible rfl
 rotate_left
 ·simp only [Act.put, List.setIfInBounds_toArray, List.set_cons_zero, List.set_cons_succ, i64_w, i32_w]
  rfl
 refine pure_ (i := 3) (N := some 6) (v := ?_) (a' := ?_) #[true, false, false, true, false, false, false, false, false, false, false] rfl rfl (any_of HT_.out (by kernel_rfl)) (fun _ _ _ h => h) (Or.inl ⟨by rfl, ?_⟩) ?_ ?_
 rotate_left
 ·intro w'
  go_simp
  with_reducible rfl
 rotate_left
 ·simp only [Act.put, List.setIfInBounds_toArray, List.set_cons_zero, List.set_cons_succ, i64_w, i32_w]
  rfl
 refine pure_ (i := 6) (N := some 9) (v := ?_) (a' := ?_) #[true, false, false, true, false, false, true, false, false, false, false] rfl rfl (any_of HT_.out (by kernel_rfl)) (fun _ _ _ h => h) (Or.inl ⟨by rfl, ?_⟩) ?_ ?_
 rotate_left
 ·intro w'
  go_simp
  with_reducible rfl
 rotate_left
 ·simp only [Act.put, List.setIfInBounds_toArray, List.set_cons_zero, List.set_cons_succ, i64_w, i32_w]
  rfl
 refine take_ (i := 1) (N := some 4) (v := ?_) (a' := ?_) #[true, true, false, true, false, false, true, false, false, false, false] rfl rfl (take_ofW HT_.out HW_.out (by kernel_rfl)) (fun _ _ _ h => h) (Or.inl ⟨by rfl, ?_⟩) hHeld ?_ ?_
 rotate_left
 ·rintro w' ⟨s0, s1, s2⟩
  go_simp
  with_reducible rfl
 rotate_left
 ·simp only [Act.put, List.setIfInBounds_toArray, List.set_cons_zero, List.set_cons_succ, i64_w, i32_w]
  rfl
 refine take_ (i := 4) (N := some 7) (v := ?_) (a' := ?_) #[true, true, false, true, true, false, true, false, false, false, false] rfl rfl (take_ofW HT_.out HW_.out (by kernel_rfl)) (fun _ _ _ h => h) (Or.inl ⟨by rfl, ?_⟩) hHeld ?_ ?_
 rotate_left
 ·rintro w' ⟨s0, s1, s2⟩
  go_simp
  with_reducible rfl
 rotate_left
 ·simp only [Act.put, List.setIfInBounds_toArray, List.set_cons_zero, List.set_cons_succ, i64_w, i32_w]
  rfl
 refine take_ (i := 7) (N := some 10) (v := ?_) (a' := ?_) #[true, true, false, true, true, false, true, true, false, false, false] rfl rfl (take_ofW HT_.out HW_.out (by kernel_rfl)) (fun _ _ _ h => h) (Or.inl ⟨by rfl, ?_⟩) hHeld ?_ ?_
 rotate_left
 ·rintro w' ⟨s0, s1, s2⟩
  go_simp
  with_reducible rfl
 rotate_left
 ·simp only [Act.put, List.setIfInBounds_toArray, List.set_cons_zero, List.set_cons_succ, i64_w, i32_w]
  rfl
 refine one_ (i := 2) (N := some 5) #[true, true, true, true, true, false, true, true, false, false, false] rfl rfl (one_of HT_.out (by kernel_rfl)) (by decide) (fun K hK => ?_)
 refine goes_ Try.func94 (by kernel_rfl) rfl #[.slice A0_0 l0_0.length c0_0] (by rfl) rfl rfl (by (try simp only [List.map_toArray, List.map_cons, List.map_nil]); first | rfl ) ?_
 with_reducible refine (api_Node_94.calls k _ _ l0_0 t13 _ ?side1 ?side2 A2.out).mono ?_
 (case side1 => repeat (exact (Kd.C_below HR0_0.out HB.out)))
 (case side2 => exact HC0_0.out)
 rintro e w8 ⟨v14, rfl, ho0, hb⟩
 refine ⟨_, rfl, ?_⟩
 have n0_ := Aside0.mk (Kd.R_lower ho0 (below_size (by repeat ((with_reducible first | exact HB.out )))))
 have n1_ := Aside0.mk (blk_below (g := gb11) (o := .cells #[.slice A0_0 l0_0.length c0_0, .slice A0_1 l0_1.length c0_1, .slice A0_2 l0_2.length c0_2] 38 (0, 0)) (by (with_reducible repeat (first | refine blk_drewN ?_ _ | refine blk_drew ?_ | refine blk_alloc ?_ _)); exact BK11.out) hb)
 have n2_ := Aside0.mk (blk_below (g := gb12) (o := .cells #[.slice none 0 0, .slice none 0 0, .slice none 0 0] 38 (0, 0)) (by (with_reducible repeat (first | refine blk_drewN ?_ _ | refine blk_drew ?_ | refine blk_alloc ?_ _)); exact BK12.out) hb)
 have n3_ := Aside0.mk (below_step (by repeat ((with_reducible first | exact HB.out ))) hb)
 clear BK11
 clear BK12
 clear HB
 have HO15 := n0_
 have BK11 := n1_
 have BK12 := n2_
 have HB := n3_
 clear n0_ n1_ n2_ n3_
 (try clear hb)
 (try clear hb2)
 (try clear hk)
 (try clear hi)
 (try clear ho0)
 refine hK.out _ _ ⟨(blk_cell BK11.out 0).trans rfl, (blk_cell BK11.out 1).trans rfl, (blk_cell BK11.out 2).trans rfl⟩ (fun hHeld => ?_)
 clear hK K
 refine norm_ (a' := ?_) ?_ ?_
 rotate_left
 ·show Act.put _ (some 5) _ = _
  simp only [Act.put, List.setIfInBounds_toArray, List.set_cons_zero, List.set_cons_succ, i64_w, i32_w]
  rfl
 refine one_ (i := 5) (N := some 8) #[true, true, true, true, true, true, true, true, false, false, false] rfl rfl (one_of HT_.out (by kernel_rfl)) (by decide) (fun K hK => ?_)
 refine goes_ Try.func72 (by kernel_rfl) rfl #[.slice A0_1 l0_1.length c0_1] (by rfl) rfl rfl (by (try simp only [List.map_toArray, List.map_cons, List.map_nil]); first | rfl ) ?_
 with_reducible refine (slices_Clone_int_int.calls k _ _ l0_1 t16 _ ?side1 ?side2 A3.out).mono ?_
 (case side1 => repeat (exact (Kd.C_below HR0_1.out HB.out)))
 (case side2 => exact HC0_1.out)
 rintro e w9 ⟨v17, rfl, ho0, hb⟩
 refine ⟨_, rfl, ?_⟩
 have n0_ := Aside0.mk (Kd.R_below (by (with_reducible repeat (first | apply Kd.R_alloc | apply Kd.R_drewN | apply Kd.R_drew)); exact HO15.out) hb)
 have n1_ := Aside0.mk (Kd.R_lower ho0 (below_size (by repeat ((with_reducible first | exact HB.out )))))
 have n2_ := Aside0.mk (blk_below (g := gb11) (o := .cells #[.slice A0_0 l0_0.length c0_0, .slice A0_1 l0_1.length c0_1, .slice A0_2 l0_2.length c0_2] 38 (0, 0)) (by (with_reducible repeat (first | refine blk_drewN ?_ _ | refine blk_drew ?_ | refine blk_alloc ?_ _)); exact BK11.out) hb)
 have n3_ := Aside0.mk (blk_below (g := gb12) (o := .cells #[.slice none 0 0, .slice none 0 0, .slice none 0 0] 38 (0, 0)) (by (with_reducible repeat (first | refine blk_drewN ?_ _ | refine blk_drew ?_ | refine blk_alloc ?_ _)); exact BK12.out) hb)
 have n4_ := Aside0.mk (below_step (by repeat ((with_reducible first | exact HB.out ))) hb)
 clear HO15
 clear BK11
 clear BK12
 clear HB
 have HO15 := n0_
 have HO18 := n1_
 have BK11 := n2_
 have BK12 := n3_
 have HB := n4_
 clear n0_ n1_ n2_ n3_ n4_
 (try clear hb)
 (try clear hb2)
 (try clear hk)
 (try clear hi)
 (try clear ho0)
 refine hK.out _ _ ⟨(blk_cell BK11.out 0).trans rfl, (blk_cell BK11.out 1).trans rfl, (blk_cell BK11.out 2).trans rfl⟩ (fun hHeld => ?_)
 clear hK K
 refine norm_ (a' := ?_) ?_ ?_
 rotate_left
 ·show Act.put _ (some 8) _ = _
  simp only [Act.put, List.setIfInBounds_toArray, List.set_cons_zero, List.set_cons_succ, i64_w, i32_w]
  rfl
 refine one_ (i := 8) (N := some 11) #[true, true, true, true, true, true, true, true, true, false, false] rfl rfl (one_of HT_.out (by kernel_rfl)) (by decide) (fun K hK => ?_)
 refine goes_ Try.func72 (by kernel_rfl) rfl #[.slice A0_2 l0_2.length c0_2] (by rfl) rfl rfl (by (try simp only [List.map_toArray, List.map_cons, List.map_nil]); first | rfl ) ?_
 with_reducible refine (slices_Clone_int_int.calls k _ _ l0_2 t19 _ ?side1 ?side2 A4.out).mono ?_
 (case side1 => repeat (exact (Kd.C_below HR0_2.out HB.out)))
 (case side2 => exact HC0_2.out)
 rintro e w10 ⟨v20, rfl, ho0, hb⟩
 refine ⟨_, rfl, ?_⟩
 have n0_ := Aside0.mk (Kd.R_below (by (with_reducible repeat (first | apply Kd.R_alloc | apply Kd.R_drewN | apply Kd.R_drew)); exact HO15.out) hb)
 have n1_ := Aside0.mk (Kd.R_elder' (by (with_reducible repeat (first | apply Kd.R_alloc | apply Kd.R_drewN | apply Kd.R_drew)); exact HO18.out) (Kd.R_base ho0) hb)
 have n2_ := Aside0.mk (Kd.R_lower (Kd.R_new' ho0 (Kd.R_lt (by (with_reducible repeat (first | apply Kd.R_alloc | apply Kd.R_drewN | apply Kd.R_drew)); exact HO18.out))) (below_size (by repeat ((with_reducible first | exact HB.out )))))
 have n3_ := Aside0.mk (blk_below (g := gb11) (o := .cells #[.slice A0_0 l0_0.length c0_0, .slice A0_1 l0_1.length c0_1, .slice A0_2 l0_2.length c0_2] 38 (0, 0)) (by (with_reducible repeat (first | refine blk_drewN ?_ _ | refine blk_drew ?_ | refine blk_alloc ?_ _)); exact BK11.out) hb)
 have n4_ := Aside0.mk (blk_below (g := gb12) (o := .cells #[.slice none 0 0, .slice none 0 0, .slice none 0 0] 38 (0, 0)) (by (with_reducible repeat (first | refine blk_drewN ?_ _ | refine blk_drew ?_ | refine blk_alloc ?_ _)); exact BK12.out) hb)
 have n5_ := Aside0.mk (below_step (by repeat ((with_reducible first | exact HB.out ))) hb)
 clear HO15
 clear HO18
 clear BK11
 clear BK12
 clear HB
 have HO15 := n0_
 have HO18 := n1_
 have HO21 := n2_
 have BK11 := n3_
 have BK12 := n4_
 have HB := n5_
 clear n0_ n1_ n2_ n3_ n4_ n5_
 (try clear hb)
 (try clear hb2)
 (try clear hk)
 (try clear hi)
 (try clear ho0)
 obtain ⟨Ao11, co11, eo11⟩ := Kd.R_slice HO21.out
 (subst eo11)
 obtain ⟨Ao12, co12, eo12⟩ := Kd.R_slice HO18.out
 (subst eo12)
 obtain ⟨Ao13, co13, eo13⟩ := Kd.R_slice HO15.out
 (subst eo13)
 refine hK.out _ _ ⟨(blk_cell BK11.out 0).trans rfl, (blk_cell BK11.out 1).trans rfl, (blk_cell BK11.out 2).trans rfl⟩ (fun hHeld => ?_)
 clear hK K
 refine norm_ (a' := ?_) ?_ ?_
 rotate_left
 ·show Act.put _ (some 11) _ = _
  simp only [Act.put, List.setIfInBounds_toArray, List.set_cons_zero, List.set_cons_succ, i64_w, i32_w]
  rfl
 refine pure_ (i := 9) (N := some 12) (v := ?_) (a' := ?_) #[true, true, true, true, true, true, true, true, true, true, false] rfl rfl (any_of HT_.out (by kernel_rfl)) (fun _ _ _ h => h) (Or.inl ⟨by rfl, ?_⟩) ?_ ?_
 rotate_left
 ·intro w'
  go_simp
  with_reducible rfl
 rotate_left
 ·simp only [Act.put, List.setIfInBounds_toArray, List.set_cons_zero, List.set_cons_succ, i64_w, i32_w]
  rfl
 refine one_ (i := 10) (N := none) #[true, true, true, true, true, true, true, true, true, true, true] rfl rfl (one_of HT_.out (by kernel_rfl)) (by decide) (fun K hK => ?_)
 have hs14 : w10.cell? ⟨gb12, 0, none⟩ = some (.slice none 0 0) := (blk_cell BK12.out 0).trans rfl
 have hfs14 := blk_frozen BK12.out 0
 have hns14_0 := NB11_12.out
 have hms14_0 := NB12_11.out
 have hs15 : w10.cell? ⟨gb12, 1, none⟩ = some (.slice none 0 0) := (blk_cell BK12.out 1).trans rfl
 have hfs15 := blk_frozen BK12.out 1
 have hns15_0 := NB11_12.out
 have hms15_0 := NB12_11.out
 have hs16 : w10.cell? ⟨gb12, 2, none⟩ = some (.slice none 0 0) := (blk_cell BK12.out 2).trans rfl
 have hfs16 := blk_frozen BK12.out 2
 have hns16_0 := NB11_12.out
 have hms16_0 := NB12_11.out
 refine skip_ (w1 := ?_) (by rfl) rfl ?_ ?_
 rotate_left
 ·go_simp
  rfl
 refine hK.out _ _ ⟨((cell_far (p := ⟨gb12, _, none⟩) NB11_12.out _).trans (((cell_far (p := ⟨gb12, _, none⟩) NB11_12.out _).trans (((cell_far (p := ⟨gb12, _, none⟩) NB11_12.out _).trans (hHeld.1)))))), ((cell_far (p := ⟨gb12, _, none⟩) NB11_12.out _).trans (((cell_far (p := ⟨gb12, _, none⟩) NB11_12.out _).trans (((cell_far (p := ⟨gb12, _, none⟩) NB11_12.out _).trans (hHeld.2.1)))))), ((cell_far (p := ⟨gb12, _, none⟩) NB11_12.out _).trans (((cell_far (p := ⟨gb12, _, none⟩) NB11_12.out _).trans (((cell_far (p := ⟨gb12, _, none⟩) NB11_12.out _).trans (hHeld.2.2))))))⟩ (fun hHeld => ?_)
 clear hK K
 refine done_ (done_of HT_.out (by kernel_rfl)) ?_
 try go_wp2
 refine bodyPost_ret (results_cell_row rfl _ _ gb12 38 #[.slice Ao13 t13.length co13, .slice Ao12 t16.length co12, .slice Ao11 t19.length co11] (0, 0) _ rfl (by (with_reducible repeat (first | refine blk_drewN ?_ _ | refine blk_drew ?_ | refine blk_alloc ?_ _)); refine blk_put (cs := #[.slice Ao13 t13.length co13, .slice Ao12 t16.length co12, .slice none 0 0]) ?_ 2 _ rfl; (with_reducible repeat (first | refine blk_drewN ?_ _ | refine blk_drew ?_ | refine blk_alloc ?_ _)); refine blk_put (cs := #[.slice Ao13 t13.length co13, .slice none 0 0, .slice none 0 0]) ?_ 1 _ rfl; (with_reducible repeat (first | refine blk_drewN ?_ _ | refine blk_drew ?_ | refine blk_alloc ?_ _)); refine blk_put (cs := #[.slice none 0 0, .slice none 0 0, .slice none 0 0]) ?_ 0 _ rfl; (with_reducible repeat (first | refine blk_drewN ?_ _ | refine blk_drew ?_ | refine blk_alloc ?_ _)); exact BK12.out) Try.underlying38 rfl (by kernel_rfl)) rfl ?_
 exact ⟨_, _, _, by rfl, by (with_reducible repeat (first | apply Kd.R_alloc | apply Kd.R_drewN | apply Kd.R_drew)); exact Kd.R_mono (Kd.R_far (p := ⟨gb12, 2, none⟩) (Kd.R_far (p := ⟨gb12, 1, none⟩) (Kd.R_far (p := ⟨gb12, 0, none⟩) (Kd.R_types HO15.out BK12.out (by decide)) (fun _ hk => hk.2) (.slice Ao13 t13.length co13)) (fun _ hk => hk.2) (.slice Ao12 t16.length co12)) (fun _ hk => hk.2) (.slice Ao11 t19.length co11)) (fun _ hk => trivial), by (with_reducible repeat (first | apply Kd.R_alloc | apply Kd.R_drewN | apply Kd.R_drew)); exact Kd.R_mono (Kd.R_far (p := ⟨gb12, 2, none⟩) (Kd.R_far (p := ⟨gb12, 1, none⟩) (Kd.R_far (p := ⟨gb12, 0, none⟩) (Kd.R_types HO18.out BK12.out (by decide)) (fun _ hk => hk.2) (.slice Ao13 t13.length co13)) (fun _ hk => hk.2) (.slice Ao12 t16.length co12)) (fun _ hk => hk.2) (.slice Ao11 t19.length co11)) (fun _ hk => hk.1.2), by (with_reducible repeat (first | apply Kd.R_alloc | apply Kd.R_drewN | apply Kd.R_drew)); exact Kd.R_mono (Kd.R_far (p := ⟨gb12, 2, none⟩) (Kd.R_far (p := ⟨gb12, 1, none⟩) (Kd.R_far (p := ⟨gb12, 0, none⟩) (Kd.R_types HO21.out BK12.out (by decide)) (fun _ hk => hk.2) (.slice Ao13 t13.length co13)) (fun _ hk => hk.2) (.slice Ao12 t16.length co12)) (fun _ hk => hk.2) (.slice Ao11 t19.length co11)) (fun _ hk => hk.1.2), by repeat ((with_reducible first | exact HB.out | refine below_set ?_ GE12.out))⟩
end Go.Proofs.Ytkidnomkfdnciaa.All
namespace Go.Proofs.Ytkidnomkfdnciaa.All
open Go.RowKit Go.Proofs.YtkidnomkfdnciaaW.PrintWords Go.Proofs.YtkidnomkfdnciaaW.PrintLast Go.Proofs.YtkidnomkfdnciaaW.PrintMore
attribute [local go_sem] max2_int min2_int max_two min_two max_three min_three max_four min_four
set_option linter.unusedVariables false
set_option linter.unusedSimpArgs false
def memo_Canon.j0 : Nat → Bool → List (S48) → List Int → List Int → Bool → Int → Int → Int → Option (Bool × Int × Int × Int)
 | 0, _, _, _, _, _, _, _, _ => none
 | k + 1, x14, x12000, x12001, x12002, x13000, x13001, x13002, x13003 => if x14 = true then (some (x13000, x13001, x13002, x13003)) else ((sets_Roots.f k x12002).bind fun t16 => ((memo_canon.f x13000 x13001 x13002 x13003 t16).bind fun bt19 => (some (bt19.1, bt19.2.1, bt19.2.2.1, bt19.2.2.2))))
def memo_Canon.f (k : Nat) (l0_0 : List (S48)) (l0_1 : List Int) (l0_2 : List Int) (a1_0 : Bool) (a1_1 : Int) (a1_2 : Int) (a1_3 : Int) : Option (Bool × Int × Int × Int) := (sets_May.f k l0_2).bind fun t14 => (if t14 = true then ((memo_node.f l0_0 l0_1 l0_2 a1_0 a1_1 a1_2 a1_3).bind fun t15 => (memo_Canon.j0 k (!t15) l0_0 l0_1 l0_2 a1_0 a1_1 a1_2 a1_3)) else (memo_Canon.j0 k true l0_0 l0_1 l0_2 a1_0 a1_1 a1_2 a1_3))
set_option maxHeartbeats 8000000 in
set_option maxRecDepth 100000 in
theorem memo_Canon.calls (k : Nat) (A0_0 : Option Addr) (c0_0 : Nat) (l0_0 : List (S48)) (A0_1 : Option Addr) (c0_1 : Nat) (l0_1 : List Int) (A0_2 : Option Addr) (c0_2 : Nat) (l0_2 : List Int) (a1_0 : Bool) (a1_1 : Int) (a1_2 : Int) (a1_3 : Int) (r1 : Bool) (r2 : Int) (r3 : Int) (r4 : Int) (w : World) (hr0_0 : Kd.C k48 w A0_0 l0_0.length l0_0) (hc0_0 : l0_0.length ≤ c0_0) (hr0_1 : Kd.C (Kd.int .i64) w A0_1 l0_1.length l0_1) (hc0_1 : l0_1.length ≤ c0_1) (hr0_2 : Kd.C (Kd.int .i64) w A0_2 l0_2.length l0_2) (hc0_2 : l0_2.length ≤ c0_2) (h : memo_Canon.f k l0_0 l0_1 l0_2 a1_0 a1_1 a1_2 a1_3 = some (r1, r2, r3, r4)) :
  Calls Try.prog 44 #[.agg #[.slice A0_0 l0_0.length c0_0, .slice A0_1 l0_1.length c0_1, .slice A0_2 l0_2.length c0_2], .agg #[.bool a1_0, .int .i64 a1_1, .int .i64 a1_2, .int .i64 a1_3]] w fun e w' => e = .returned (.agg #[.bool r1, .int .i64 r2, .int .i64 r3, .int .i64 r4]) ∧ Below w.heap.size w w' := by
 have hu38 := Try.underlying38
 have hu48 := Try.underlying48
 have HR0_0 := Aside0.mk hr0_0
 have HC0_0 := Aside0.mk hc0_0
 clear hr0_0 hc0_0
 have HR0_1 := Aside0.mk hr0_1
 have HC0_1 := Aside0.mk hc0_1
 clear hr0_1 hc0_1
 have HR0_2 := Aside0.mk hr0_2
 have HC0_2 := Aside0.mk hc0_2
 clear hr0_2 hc0_2
 have HB := Aside0.mk (Below.refl w.heap.size w)
 have H : ((sets_May.f k l0_2).bind fun t14 => (if t14 = true then ((memo_node.f l0_0 l0_1 l0_2 a1_0 a1_1 a1_2 a1_3).bind fun t15 => (memo_Canon.j0 k (!t15) l0_0 l0_1 l0_2 a1_0 a1_1 a1_2 a1_3)) else (memo_Canon.j0 k true l0_0 l0_1 l0_2 a1_0 a1_1 a1_2 a1_3))) = some (r1, r2, r3, r4) := h
 clear h
 have HC3 := Aside0.mk H
 clear H
 go_enter Try.func44, Try.ntmps44
 go_upto_region 1 with (first | ((with_reducible refine gate_dst (N := 2) rfl ?_); refine box_event ?hg (N := 2) ?hd (cs := #[.slice A0_0 l0_0.length c0_0, .slice A0_1 l0_1.length c0_1, .slice A0_2 l0_2.length c0_2]) (t := 38) ?hr ?_; (case hd => rfl); (case hg => rfl); (case hr => first | (go_simp; done) ); intro gb11 hg w4 hbox hb; have n0_ := Aside0.mk (below_step (by repeat ((with_reducible first | exact HB.out ))) hb); have n1_ := Aside0.mk (hbox); have n2_ := Aside0.mk ((by rw [hg]; exact (below_size (by repeat ((with_reducible first | exact HB.out )))) : w.heap.size ≤ gb11)); have n3_ := Aside0.mk ((by rw [hg]; exact (below_size (by repeat ((with_reducible first | exact HB.out )))) : w.heap.size ≤ gb11)); clear HB; have HB := n0_; have BK11 := n1_; have GW11 := n2_; have GE11 := n3_; clear n0_ n1_ n2_ n3_; clear hb hbox hg) | ((with_reducible refine gate_dst (N := 3) rfl ?_); refine box_event ?hg (N := 3) ?hd (cs := #[.bool a1_0, .int .i64 a1_1, .int .i64 a1_2, .int .i64 a1_3]) (t := 48) ?hr ?_; (case hd => rfl); (case hg => rfl); (case hr => first | (go_simp; done) ); intro gb12 hg w5 hbox hb; have n0_ := Aside0.mk (blk_below (g := gb11) (o := .cells #[.slice A0_0 l0_0.length c0_0, .slice A0_1 l0_1.length c0_1, .slice A0_2 l0_2.length c0_2] 38 (0, 0)) (by (with_reducible repeat (first | refine blk_drewN ?_ _ | refine blk_drew ?_ | refine blk_alloc ?_ _)); exact BK11.out) hb); have n1_ := Aside0.mk (below_step (by repeat ((with_reducible first | exact HB.out ))) hb); have n2_ := Aside0.mk (hbox); have n3_ := Aside0.mk ((by rw [hg]; exact (below_size (by repeat ((with_reducible first | exact HB.out )))) : w.heap.size ≤ gb12)); have n4_ := Aside0.mk ((by rw [hg]; exact (below_size (by repeat ((with_reducible first | exact HB.out )))) : w.heap.size ≤ gb12)); have n5_ := Aside0.mk ((by rw [hg]; exact Nat.ne_of_lt (blk_lt (g := gb11) (o := .cells #[.slice A0_0 l0_0.length c0_0, .slice A0_1 l0_1.length c0_1, .slice A0_2 l0_2.length c0_2] 38 (0, 0)) (by (with_reducible repeat (first | refine blk_drewN ?_ _ | refine blk_drew ?_ | refine blk_alloc ?_ _)); exact BK11.out)) : gb11 ≠ gb12)); have n6_ := Aside0.mk ((by rw [hg]; exact Nat.ne_of_gt (blk_lt (g := gb11) (o := .cells #[.slice A0_0 l0_0.length c0_0, .slice A0_1 l0_1.length c0_1, .slice A0_2 l0_2.length c0_2] 38 (0, 0)) (by (with_reducible repeat (first | refine blk_drewN ?_ _ | refine blk_drew ?_ | refine blk_alloc ?_ _)); exact BK11.out)) : gb12 ≠ gb11)); clear BK11; clear HB; have BK11 := n0_; have HB := n1_; have BK12 := n2_; have GW12 := n3_; have GE12 := n4_; have NB11_12 := n5_; have NB12_11 := n6_; clear n0_ n1_ n2_ n3_ n4_ n5_ n6_; clear hb hbox hg) | ((with_reducible refine gate_dst (N := 4) rfl ?_); refine box_event ?hg (N := 4) ?hd (cs := #[.bool false, .int .i64 0, .int .i64 0, .int .i64 0]) (t := 48) ?hr ?_; (case hd => rfl); (case hg => rfl); (case hr => first | (go_simp; done) ); intro gb13 hg w6 hbox hb; have n0_ := Aside0.mk (blk_below (g := gb11) (o := .cells #[.slice A0_0 l0_0.length c0_0, .slice A0_1 l0_1.length c0_1, .slice A0_2 l0_2.length c0_2] 38 (0, 0)) (by (with_reducible repeat (first | refine blk_drewN ?_ _ | refine blk_drew ?_ | refine blk_alloc ?_ _)); exact BK11.out) hb); have n1_ := Aside0.mk (blk_below (g := gb12) (o := .cells #[.bool a1_0, .int .i64 a1_1, .int .i64 a1_2, .int .i64 a1_3] 48 (0, 0)) (by (with_reducible repeat (first | refine blk_drewN ?_ _ | refine blk_drew ?_ | refine blk_alloc ?_ _)); exact BK12.out) hb); have n2_ := Aside0.mk (below_step (by repeat ((with_reducible first | exact HB.out ))) hb); have n3_ := Aside0.mk (hbox); have n4_ := Aside0.mk ((by rw [hg]; exact (below_size (by repeat ((with_reducible first | exact HB.out )))) : w.heap.size ≤ gb13)); have n5_ := Aside0.mk ((by rw [hg]; exact (below_size (by repeat ((with_reducible first | exact HB.out )))) : w.heap.size ≤ gb13)); have n6_ := Aside0.mk ((by rw [hg]; exact Nat.ne_of_lt (blk_lt (g := gb11) (o := .cells #[.slice A0_0 l0_0.length c0_0, .slice A0_1 l0_1.length c0_1, .slice A0_2 l0_2.length c0_2] 38 (0, 0)) (by (with_reducible repeat (first | refine blk_drewN ?_ _ | refine blk_drew ?_ | refine blk_alloc ?_ _)); exact BK11.out)) : gb11 ≠ gb13)); have n7_ := Aside0.mk ((by rw [hg]; exact Nat.ne_of_gt (blk_lt (g := gb11) (o := .cells #[.slice A0_0 l0_0.length c0_0, .slice A0_1 l0_1.length c0_1, .slice A0_2 l0_2.length c0_2] 38 (0, 0)) (by (with_reducible repeat (first | refine blk_drewN ?_ _ | refine blk_drew ?_ | refine blk_alloc ?_ _)); exact BK11.out)) : gb13 ≠ gb11)); have n8_ := Aside0.mk ((by rw [hg]; exact Nat.ne_of_lt (blk_lt (g := gb12) (o := .cells #[.bool a1_0, .int .i64 a1_1, .int .i64 a1_2, .int .i64 a1_3] 48 (0, 0)) (by (with_reducible repeat (first | refine blk_drewN ?_ _ | refine blk_drew ?_ | refine blk_alloc ?_ _)); exact BK12.out)) : gb12 ≠ gb13)); have n9_ := Aside0.mk ((by rw [hg]; exact Nat.ne_of_gt (blk_lt (g := gb12) (o := .cells #[.bool a1_0, .int .i64 a1_1, .int .i64 a1_2, .int .i64 a1_3] 48 (0, 0)) (by (with_reducible repeat (first | refine blk_drewN ?_ _ | refine blk_drew ?_ | refine blk_alloc ?_ _)); exact BK12.out)) : gb13 ≠ gb12)); clear BK11; clear BK12; clear HB; have BK11 := n0_; have BK12 := n1_; have HB := n2_; have BK13 := n3_; have GW13 := n4_; have GE13 := n5_; have NB11_13 := n6_; have NB13_11 := n7_; have NB12_13 := n8_; have NB13_12 := n9_; clear n0_ n1_ n2_ n3_ n4_ n5_ n6_ n7_ n8_ n9_; clear hb hbox hg))
 (try simp only [Act.put, List.setIfInBounds_toArray, List.set_cons_zero, List.set_cons_succ])
 go_cut [14] (fun v14 wc => ∃ (kq : Nat) (x14_2 : Bool), v14 = .bool x14_2 ∧ Aside0 (memo_Canon.j0 kq x14_2 l0_0 l0_1 l0_2 a1_0 a1_1 a1_2 a1_3 = some (r1, r2, r3, r4)) ∧ Aside0 (kq ≤ k) ∧ Aside0 (wc.heap[gb11]? = some (.cells #[(.slice A0_0 l0_0.length c0_0), (.slice A0_1 l0_1.length c0_1), (.slice A0_2 l0_2.length c0_2)] 38 (0, 0))) ∧ Aside0 (wc.heap[gb12]? = some (.cells #[.bool a1_0, .int .i64 a1_1, .int .i64 a1_2, .int .i64 a1_3] 48 (0, 0))) ∧ Aside0 (wc.heap[gb13]? = some (.cells #[.bool false, .int .i64 0, .int .i64 0, .int .i64 0] 48 (0, 0))) ∧ Aside0 (Below w.heap.size w wc))
 case first =>
  have H := HC3.out
  clear HC3
  replace H := Option.bind_eq_some_iff.mp H
  obtain ⟨t14, A70, H⟩ := H
  replace H : (if t14 = true then ((memo_node.f l0_0 l0_1 l0_2 a1_0 a1_1 a1_2 a1_3).bind fun t15 => (memo_Canon.j0 k (!t15) l0_0 l0_1 l0_2 a1_0 a1_1 a1_2 a1_3)) else (memo_Canon.j0 k true l0_0 l0_1 l0_2 a1_0 a1_1 a1_2 a1_3)) = some (r1, r2, r3, r4) := H
  have A7 := Aside0.mk A70
  clear A70
  by_cases c8 : t14 = true
  ·subst c8
   have H1 : ((memo_node.f l0_0 l0_1 l0_2 a1_0 a1_1 a1_2 a1_3).bind fun t15 => (memo_Canon.j0 k (!t15) l0_0 l0_1 l0_2 a1_0 a1_1 a1_2 a1_3)) = some (r1, r2, r3, r4) := by rw [if_pos rfl] at H; exact H
   clear H
   have H := H1
   clear H1
   replace H := Option.bind_eq_some_iff.mp H
   obtain ⟨t15, A90, H⟩ := H
   replace H : (memo_Canon.j0 k (!t15) l0_0 l0_1 l0_2 a1_0 a1_1 a1_2 a1_3) = some (r1, r2, r3, r4) := H
   have A9 := Aside0.mk A90
   clear A90
   have H' := Aside0.mk H
   clear H
   have hnb10 := NB11_12.out
   have hnc10 := NB12_11.out
   have hnb11 := NB11_13.out
   have hnc11 := NB13_11.out
   obtain ⟨hcz12_0, hcz12_1, hcz12_2, hfz12_0, hfz12_1, hfz12_2⟩ := bk3 BK11.out
   go_wp2_with (first | ((with_reducible refine gate_callee (f := 25) rfl ?_); refine goesL_ (some 7) rfl rfl Try.func25 (by kernel_rfl) rfl #[.slice A0_2 l0_2.length c0_2] rfl (by (try simp only [List.map_toArray, List.map_cons, List.map_nil]); first | rfl ) ?_; (with_reducible refine (sets_May.calls k _ _ l0_2 true _ ?side1 ?side2 A7.out).mono ?_); (case side1 => repeat (exact (Kd.C_below HR0_2.out HB.out))); (case side2 => exact HC0_2.out); rintro e w' ⟨rfl, ⟨nd, rfl⟩⟩; refine ⟨_, rfl, ?_⟩; have hnb13 := NB12_13.out; have hnc13 := NB13_12.out; obtain ⟨hcz14_0, hcz14_1, hcz14_2, hcz14_3, hfz14_0, hfz14_1, hfz14_2, hfz14_3⟩ := bk4 BK12.out) | (go_at_call 78; (with_reducible refine (memo_node.calls _ _ l0_0 _ _ l0_1 _ _ l0_2 a1_0 a1_1 a1_2 a1_3 t15 _ ?side1 ?side2 ?side3 ?side4 ?side5 ?side6 A9.out).mono ?_); (case side1 => repeat (exact (Kd.C_below HR0_0.out (by repeat ((with_reducible first | exact HB.out | apply pw_below_drewN )))))); (case side2 => exact HC0_0.out); (case side3 => repeat (exact (Kd.C_below HR0_1.out (by repeat ((with_reducible first | exact HB.out | apply pw_below_drewN )))))); (case side4 => exact HC0_1.out); (case side5 => repeat (exact (Kd.C_below HR0_2.out (by repeat ((with_reducible first | exact HB.out | apply pw_below_drewN )))))); (case side6 => exact HC0_2.out); rintro e w15 ⟨rfl, hb⟩; have n0_ := Aside0.mk (blk_below (g := gb11) (o := .cells #[.slice A0_0 l0_0.length c0_0, .slice A0_1 l0_1.length c0_1, .slice A0_2 l0_2.length c0_2] 38 (0, 0)) (by (with_reducible repeat (refine blk_drewN ?_ _)); exact BK11.out) hb); have n1_ := Aside0.mk (blk_below (g := gb12) (o := .cells #[.bool a1_0, .int .i64 a1_1, .int .i64 a1_2, .int .i64 a1_3] 48 (0, 0)) (by (with_reducible repeat (refine blk_drewN ?_ _)); exact BK12.out) hb); have n2_ := Aside0.mk (blk_below (g := gb13) (o := .cells #[.bool false, .int .i64 0, .int .i64 0, .int .i64 0] 48 (0, 0)) (by (with_reducible repeat (refine blk_drewN ?_ _)); exact BK13.out) hb); have n3_ := Aside0.mk (below_step (by repeat ((with_reducible first | exact HB.out | apply pw_below_drewN ))) hb); clear BK11; clear BK12; clear BK13; clear HB; have BK11 := n0_; have BK12 := n1_; have BK13 := n2_; have HB := n3_; clear n0_ n1_ n2_ n3_; (try clear hb); ))
   go_meet
   case rel => exact ⟨_, (!t15), (by rfl), H', ⟨by omega⟩, ⟨by (with_reducible repeat (first | refine blk_drewN ?_ _ | refine blk_drew ?_ | refine blk_alloc ?_ _)); exact BK11.out⟩, ⟨by (with_reducible repeat (first | refine blk_drewN ?_ _ | refine blk_drew ?_ | refine blk_alloc ?_ _)); exact BK12.out⟩, ⟨by (with_reducible repeat (first | refine blk_drewN ?_ _ | refine blk_drew ?_ | refine blk_alloc ?_ _)); exact BK13.out⟩, ⟨by repeat ((with_reducible first | exact HB.out ))⟩⟩
  ·replace c8 := Bool.eq_false_iff.mpr c8
   subst c8
   have H1 : (memo_Canon.j0 k true l0_0 l0_1 l0_2 a1_0 a1_1 a1_2 a1_3) = some (r1, r2, r3, r4) := by rw [if_neg (show ¬ (false = true) by decide)] at H; exact H
   clear H
   have H := H1
   clear H1
   have H' := Aside0.mk H
   clear H
   have hnb16 := NB11_12.out
   have hnc16 := NB12_11.out
   have hnb17 := NB11_13.out
   have hnc17 := NB13_11.out
   obtain ⟨hcz18_0, hcz18_1, hcz18_2, hfz18_0, hfz18_1, hfz18_2⟩ := bk3 BK11.out
   go_wp2_with (((with_reducible refine gate_callee (f := 25) rfl ?_); refine goesL_ (some 7) rfl rfl Try.func25 (by kernel_rfl) rfl #[.slice A0_2 l0_2.length c0_2] rfl (by (try simp only [List.map_toArray, List.map_cons, List.map_nil]); first | rfl ) ?_; (with_reducible refine (sets_May.calls k _ _ l0_2 false _ ?side1 ?side2 A7.out).mono ?_); (case side1 => repeat (exact (Kd.C_below HR0_2.out HB.out))); (case side2 => exact HC0_2.out); rintro e w' ⟨rfl, ⟨nd, rfl⟩⟩; refine ⟨_, rfl, ?_⟩))
   go_meet
   case rel => exact ⟨_, (true), (by rfl), H', ⟨by omega⟩, ⟨by (with_reducible repeat (refine blk_drewN ?_ _)); exact BK11.out⟩, ⟨by (with_reducible repeat (refine blk_drewN ?_ _)); exact BK12.out⟩, ⟨by (with_reducible repeat (refine blk_drewN ?_ _)); exact BK13.out⟩, ⟨by repeat ((with_reducible first | exact HB.out | apply pw_below_drewN ))⟩⟩
 case rest =>
  clear HC3
  obtain ⟨kq, x14_2, rfl, HA, HJ2, BK11, BK12, BK13, HB⟩ := hcut
  cases kq with
  | zero => exact absurd HA.out (by simp [memo_Canon.j0])
  | succ kj2 =>
   have H := HA.out
   clear HA
   simp only [memo_Canon.j0] at H
   by_cases c19 : x14_2 = true
   ·subst c19
    have H1 : (some (a1_0, a1_1, a1_2, a1_3)) = some (r1, r2, r3, r4) := by rw [if_pos rfl] at H; exact H
    clear H
    have H := H1
    clear H1
    simp only [Option.some.injEq, Prod.mk.injEq] at H
    obtain ⟨rfl, rfl, rfl, rfl⟩ := H
    have hnb20 := NB12_11.out
    have hnc20 := NB11_12.out
    have hnb21 := NB12_13.out
    have hnc21 := NB13_12.out
    obtain ⟨hcz22_0, hcz22_1, hcz22_2, hcz22_3, hfz22_0, hfz22_1, hfz22_2, hfz22_3⟩ := bk4 BK12.out
    have hnb23 := NB13_11.out
    have hnc23 := NB11_13.out
    obtain ⟨hcz24_0, hcz24_1, hcz24_2, hcz24_3, hfz24_0, hfz24_1, hfz24_2, hfz24_3⟩ := bk4 BK13.out
    go_wp2
    refine bodyPost_ret (results_cell_row rfl _ _ gb13 48 #[.bool a1_0, .int .i64 a1_1, .int .i64 a1_2, .int .i64 a1_3] (0, 0) _ rfl (by (with_reducible repeat (first | refine blk_drewN ?_ _ | refine blk_drew ?_ | refine blk_alloc ?_ _)); refine blk_put (cs := #[.bool a1_0, .int .i64 a1_1, .int .i64 a1_2, .int .i64 0]) ?_ 3 _ rfl; (with_reducible repeat (first | refine blk_drewN ?_ _ | refine blk_drew ?_ | refine blk_alloc ?_ _)); refine blk_put (cs := #[.bool a1_0, .int .i64 a1_1, .int .i64 0, .int .i64 0]) ?_ 2 _ rfl; (with_reducible repeat (first | refine blk_drewN ?_ _ | refine blk_drew ?_ | refine blk_alloc ?_ _)); refine blk_put (cs := #[.bool a1_0, .int .i64 0, .int .i64 0, .int .i64 0]) ?_ 1 _ rfl; (with_reducible repeat (first | refine blk_drewN ?_ _ | refine blk_drew ?_ | refine blk_alloc ?_ _)); refine blk_put (cs := #[.bool false, .int .i64 0, .int .i64 0, .int .i64 0]) ?_ 0 _ rfl; (with_reducible repeat (first | refine blk_drewN ?_ _ | refine blk_drew ?_ | refine blk_alloc ?_ _)); exact BK13.out) Try.underlying48 rfl (by kernel_rfl)) rfl ?_
    exact ⟨by rfl, by repeat ((with_reducible first | exact HB.out | refine below_set ?_ GE13.out))⟩
   ·replace c19 := Bool.eq_false_iff.mpr c19
    subst c19
    have H1 : ((sets_Roots.f kj2 l0_2).bind fun t16 => ((memo_canon.f a1_0 a1_1 a1_2 a1_3 t16).bind fun bt19 => (some (bt19.1, bt19.2.1, bt19.2.2.1, bt19.2.2.2)))) = some (r1, r2, r3, r4) := by rw [if_neg (show ¬ (false = true) by decide)] at H; exact H
    clear H
    have H := H1
    clear H1
    replace H := Option.bind_eq_some_iff.mp H
    obtain ⟨t16, A250, H⟩ := H
    replace H : ((memo_canon.f a1_0 a1_1 a1_2 a1_3 t16).bind fun bt19 => (some (bt19.1, bt19.2.1, bt19.2.2.1, bt19.2.2.2))) = some (r1, r2, r3, r4) := H
    have A25 := Aside0.mk A250
    clear A250
    replace H := Option.bind_eq_some_iff.mp H
    obtain ⟨⟨t19, t20, t21, t22⟩, A260, H⟩ := H
    replace H : (some (t19, t20, t21, t22)) = some (r1, r2, r3, r4) := H
    have A26 := Aside0.mk A260
    clear A260
    simp only [Option.some.injEq, Prod.mk.injEq] at H
    obtain ⟨rfl, rfl, rfl, rfl⟩ := H
    try go_wp2
    have n0_ := Aside0.mk (blk_drew BK11.out)
    have n1_ := Aside0.mk (blk_drew BK12.out)
    have n2_ := Aside0.mk (blk_drew BK13.out)
    have n3_ := Aside0.mk (below_drew1 HB.out)
    clear BK11
    clear BK12
    clear BK13
    clear HB
    have BK11 := n0_
    have BK12 := n1_
    have BK13 := n2_
    have HB := n3_
    clear n0_ n1_ n2_ n3_
    refine start_ (n := 6) (S := fun w' => w'.cell? ⟨gb12, 0, none⟩ = some (.bool a1_0) ∧ w'.cell? ⟨gb12, 1, none⟩ = some (.int .i64 a1_1) ∧ w'.cell? ⟨gb12, 2, none⟩ = some (.int .i64 a1_2) ∧ w'.cell? ⟨gb12, 3, none⟩ = some (.int .i64 a1_3) ∧ w'.cell? ⟨gb11, 0, none⟩ = some (.slice A0_0 l0_0.length c0_0) ∧ w'.cell? ⟨gb11, 1, none⟩ = some (.slice A0_1 l0_1.length c0_1) ∧ w'.cell? ⟨gb11, 2, none⟩ = some (.slice A0_2 l0_2.length c0_2)) (ds := []) #[false, false, false, false, false, false] (by kernel_rfl) rfl rfl ⟨(blk_cell BK12.out 0).trans rfl, (blk_cell BK12.out 1).trans rfl, (blk_cell BK12.out 2).trans rfl, (blk_cell BK12.out 3).trans rfl, (blk_cell BK11.out 0).trans rfl, (blk_cell BK11.out 1).trans rfl, (blk_cell BK11.out 2).trans rfl⟩ (fun hHeld => ?_)
    generalize wc.drew = w27 at BK11 BK12 BK13 HB hHeld ⊢
    refine pure_ (i := 1) (N := some 17) (v := ?_) (a' := ?_) #[false, true, false, false, false, false] rfl rfl (by kernel_rfl) (fun _ _ _ h => h) (Or.inl ⟨by rfl, ?_⟩) ?_ ?_
    rotate_left
    ·intro w'
     go_simp
     with_reducible rfl
    rotate_left
    ·simp only [Act.put, List.setIfInBounds_toArray, List.set_cons_zero, List.set_cons_succ, i64_w, i32_w]
     rfl
    refine take_ (i := 0) (N := some 16) (v := ?_) (a' := ?_) #[true, true, false, false, false, false] rfl rfl (by kernel_rfl) (fun _ _ _ h => h) (Or.inl ⟨by rfl, ?_⟩) hHeld ?_ ?_
    rotate_left
    ·rintro w' ⟨s0, s1, s2, s3, s4, s5, s6⟩
     go_simp
     with_reducible rfl
    rotate_left
    ·simp only [Act.put, List.setIfInBounds_toArray, List.set_cons_zero, List.set_cons_succ, i64_w, i32_w]
     rfl
    refine take_ (i := 2) (N := some 18) (v := ?_) (a' := ?_) #[true, true, true, false, false, false] rfl rfl (by kernel_rfl) (fun _ _ _ h => h) (Or.inl ⟨by rfl, ?_⟩) hHeld ?_ ?_
    rotate_left
    ·rintro w' ⟨s0, s1, s2, s3, s4, s5, s6⟩
     go_simp
     with_reducible rfl
    rotate_left
    ·simp only [Act.put, List.setIfInBounds_toArray, List.set_cons_zero, List.set_cons_succ, i64_w, i32_w]
     rfl
    refine one_ (i := 3) (N := some 19) #[true, true, true, true, false, false] rfl rfl (by kernel_rfl) (by decide) (fun K hK => ?_)
    refine goes_ Try.func33 (by kernel_rfl) rfl #[.slice A0_2 l0_2.length c0_2] (by rfl) rfl rfl (by (try simp only [List.map_toArray, List.map_cons, List.map_nil]); first | rfl ) ?_
    with_reducible refine (sets_Roots.calls kj2 _ _ l0_2 t16 _ ?side1 ?side2 A25.out).mono ?_
    (case side1 => repeat (exact (Kd.C_below HR0_2.out HB.out)))
    (case side2 => exact HC0_2.out)
    rintro e w28 ⟨v17, rfl, ho0, hb⟩
    refine ⟨_, rfl, ?_⟩
    have n0_ := Aside0.mk (Kd.R_lower ho0 (below_size (by repeat ((with_reducible first | exact HB.out )))))
    have n1_ := Aside0.mk (blk_below (g := gb11) (o := .cells #[.slice A0_0 l0_0.length c0_0, .slice A0_1 l0_1.length c0_1, .slice A0_2 l0_2.length c0_2] 38 (0, 0)) (by (with_reducible repeat (first | refine blk_drewN ?_ _ | refine blk_drew ?_ | refine blk_alloc ?_ _)); exact BK11.out) hb)
    have n2_ := Aside0.mk (blk_below (g := gb12) (o := .cells #[.bool a1_0, .int .i64 a1_1, .int .i64 a1_2, .int .i64 a1_3] 48 (0, 0)) (by (with_reducible repeat (first | refine blk_drewN ?_ _ | refine blk_drew ?_ | refine blk_alloc ?_ _)); exact BK12.out) hb)
    have n3_ := Aside0.mk (blk_below (g := gb13) (o := .cells #[.bool false, .int .i64 0, .int .i64 0, .int .i64 0] 48 (0, 0)) (by (with_reducible repeat (first | refine blk_drewN ?_ _ | refine blk_drew ?_ | refine blk_alloc ?_ _)); exact BK13.out) hb)
    have n4_ := Aside0.mk (below_step (by repeat ((with_reducible first | exact HB.out ))) hb)
    clear BK11
    clear BK12
    clear BK13
    clear HB
    have HO18 := n0_
    have BK11 := n1_
    have BK12 := n2_
    have BK13 := n3_
    have HB := n4_
    clear n0_ n1_ n2_ n3_ n4_
    (try clear hb)
    (try clear hb2)
    (try clear hk)
    (try clear hi)
    (try clear ho0)
    obtain ⟨Ao29, co29, eo29⟩ := Kd.R_slice HO18.out
    (subst eo29)
    refine hK.out _ _ ⟨(blk_cell BK12.out 0).trans rfl, (blk_cell BK12.out 1).trans rfl, (blk_cell BK12.out 2).trans rfl, (blk_cell BK12.out 3).trans rfl, (blk_cell BK11.out 0).trans rfl, (blk_cell BK11.out 1).trans rfl, (blk_cell BK11.out 2).trans rfl⟩ (fun hHeld => ?_)
    clear hK K
    refine norm_ (a' := ?_) ?_ ?_
    rotate_left
    ·show Act.put _ (some 19) _ = _
     simp only [Act.put, List.setIfInBounds_toArray, List.set_cons_zero, List.set_cons_succ, i64_w, i32_w]
     rfl
    refine one_ (i := 4) (N := some 20) #[true, true, true, true, true, false] rfl rfl (by kernel_rfl) (by decide) (fun K hK => ?_)
    refine goes_ Try.func79 (by kernel_rfl) rfl #[.agg #[.bool a1_0, .int .i64 a1_1, .int .i64 a1_2, .int .i64 a1_3], .slice Ao29 t16.length co29] (by rfl) rfl rfl (by (try simp only [List.map_toArray, List.map_cons, List.map_nil]); first | rfl ) ?_
    with_reducible refine (memo_canon.calls a1_0 a1_1 a1_2 a1_3 _ _ t16 t19 t20 t21 t22 _ ?side1 ?side2 A26.out).mono ?_
    (case side1 => repeat (exact (Kd.R_reads' HO18.out).2.2))
    (case side2 => exact (Kd.R_reads' HO18.out).2.1)
    rintro e w30 ⟨rfl, hb⟩
    refine ⟨_, rfl, ?_⟩
    have n0_ := Aside0.mk (Kd.R_below (by (with_reducible repeat (first | apply Kd.R_alloc | apply Kd.R_drewN | apply Kd.R_drew)); exact HO18.out) hb)
    have n1_ := Aside0.mk (blk_below (g := gb11) (o := .cells #[.slice A0_0 l0_0.length c0_0, .slice A0_1 l0_1.length c0_1, .slice A0_2 l0_2.length c0_2] 38 (0, 0)) (by (with_reducible repeat (first | refine blk_drewN ?_ _ | refine blk_drew ?_ | refine blk_alloc ?_ _)); exact BK11.out) hb)
    have n2_ := Aside0.mk (blk_below (g := gb12) (o := .cells #[.bool a1_0, .int .i64 a1_1, .int .i64 a1_2, .int .i64 a1_3] 48 (0, 0)) (by (with_reducible repeat (first | refine blk_drewN ?_ _ | refine blk_drew ?_ | refine blk_alloc ?_ _)); exact BK12.out) hb)
    have n3_ := Aside0.mk (blk_below (g := gb13) (o := .cells #[.bool false, .int .i64 0, .int .i64 0, .int .i64 0] 48 (0, 0)) (by (with_reducible repeat (first | refine blk_drewN ?_ _ | refine blk_drew ?_ | refine blk_alloc ?_ _)); exact BK13.out) hb)
    have n4_ := Aside0.mk (below_step (by repeat ((with_reducible first | exact HB.out ))) hb)
    clear HO18
    clear BK11
    clear BK12
    clear BK13
    clear HB
    have HO18 := n0_
    have BK11 := n1_
    have BK12 := n2_
    have BK13 := n3_
    have HB := n4_
    clear n0_ n1_ n2_ n3_ n4_
    (try clear hb)
    (try clear hb2)
    (try clear hk)
    (try clear hi)
    refine hK.out _ _ ⟨(blk_cell BK12.out 0).trans rfl, (blk_cell BK12.out 1).trans rfl, (blk_cell BK12.out 2).trans rfl, (blk_cell BK12.out 3).trans rfl, (blk_cell BK11.out 0).trans rfl, (blk_cell BK11.out 1).trans rfl, (blk_cell BK11.out 2).trans rfl⟩ (fun hHeld => ?_)
    clear hK K
    refine norm_ (a' := ?_) ?_ ?_
    rotate_left
    ·show Act.put _ (some 20) _ = _
     simp only [Act.put, List.setIfInBounds_toArray, List.set_cons_zero, List.set_cons_succ, i64_w, i32_w]
     rfl
    refine one_ (i := 5) (N := none) #[true, true, true, true, true, true] rfl rfl (by kernel_rfl) (by decide) (fun K hK => ?_)
    have hs31 : w30.cell? ⟨gb13, 0, none⟩ = some (.bool false) := (blk_cell BK13.out 0).trans rfl
    have hfs31 := blk_frozen BK13.out 0
    have hns31_0 := NB11_13.out
    have hns31_1 := NB12_13.out
    have hms31_0 := NB13_11.out
    have hms31_1 := NB13_12.out
    have hs32 : w30.cell? ⟨gb13, 1, none⟩ = some (.int .i64 0) := (blk_cell BK13.out 1).trans rfl
    have hfs32 := blk_frozen BK13.out 1
    have hns32_0 := NB11_13.out
    have hns32_1 := NB12_13.out
    have hms32_0 := NB13_11.out
    have hms32_1 := NB13_12.out
    have hs33 : w30.cell? ⟨gb13, 2, none⟩ = some (.int .i64 0) := (blk_cell BK13.out 2).trans rfl
    have hfs33 := blk_frozen BK13.out 2
    have hns33_0 := NB11_13.out
    have hns33_1 := NB12_13.out
    have hms33_0 := NB13_11.out
    have hms33_1 := NB13_12.out
    have hs34 : w30.cell? ⟨gb13, 3, none⟩ = some (.int .i64 0) := (blk_cell BK13.out 3).trans rfl
    have hfs34 := blk_frozen BK13.out 3
    have hns34_0 := NB11_13.out
    have hns34_1 := NB12_13.out
    have hms34_0 := NB13_11.out
    have hms34_1 := NB13_12.out
    refine skip_ (w1 := ?_) (by rfl) rfl ?_ ?_
    rotate_left
    ·go_simp
     rfl
    refine hK.out _ _ ⟨((cell_far (p := ⟨gb13, _, none⟩) NB12_13.out _).trans (((cell_far (p := ⟨gb13, _, none⟩) NB12_13.out _).trans (((cell_far (p := ⟨gb13, _, none⟩) NB12_13.out _).trans (((cell_far (p := ⟨gb13, _, none⟩) NB12_13.out _).trans (hHeld.1)))))))), ((cell_far (p := ⟨gb13, _, none⟩) NB12_13.out _).trans (((cell_far (p := ⟨gb13, _, none⟩) NB12_13.out _).trans (((cell_far (p := ⟨gb13, _, none⟩) NB12_13.out _).trans (((cell_far (p := ⟨gb13, _, none⟩) NB12_13.out _).trans (hHeld.2.1)))))))), ((cell_far (p := ⟨gb13, _, none⟩) NB12_13.out _).trans (((cell_far (p := ⟨gb13, _, none⟩) NB12_13.out _).trans (((cell_far (p := ⟨gb13, _, none⟩) NB12_13.out _).trans (((cell_far (p := ⟨gb13, _, none⟩) NB12_13.out _).trans (hHeld.2.2.1)))))))), ((cell_far (p := ⟨gb13, _, none⟩) NB12_13.out _).trans (((cell_far (p := ⟨gb13, _, none⟩) NB12_13.out _).trans (((cell_far (p := ⟨gb13, _, none⟩) NB12_13.out _).trans (((cell_far (p := ⟨gb13, _, none⟩) NB12_13.out _).trans (hHeld.2.2.2.1)))))))), ((cell_far (p := ⟨gb13, _, none⟩) NB11_13.out _).trans (((cell_far (p := ⟨gb13, _, none⟩) NB11_13.out _).trans (((cell_far (p := ⟨gb13, _, none⟩) NB11_13.out _).trans (((cell_far (p := ⟨gb13, _, none⟩) NB11_13.out _).trans (hHeld.2.2.2.2.1)))))))), ((cell_far (p := ⟨gb13, _, none⟩) NB11_13.out _).trans (((cell_far (p := ⟨gb13, _, none⟩) NB11_13.out _).trans (((cell_far (p := ⟨gb13, _, none⟩) NB11_13.out _).trans (((cell_far (p := ⟨gb13, _, none⟩) NB11_13.out _).trans (hHeld.2.2.2.2.2.1)))))))), ((cell_far (p := ⟨gb13, _, none⟩) NB11_13.out _).trans (((cell_far (p := ⟨gb13, _, none⟩) NB11_13.out _).trans (((cell_far (p := ⟨gb13, _, none⟩) NB11_13.out _).trans (((cell_far (p := ⟨gb13, _, none⟩) NB11_13.out _).trans (hHeld.2.2.2.2.2.2))))))))⟩ (fun hHeld => ?_)
    clear hK K
    refine done_ (by kernel_rfl) ?_
    try go_wp2
    refine bodyPost_ret (results_cell_row rfl _ _ gb13 48 #[.bool t19, .int .i64 t20, .int .i64 t21, .int .i64 t22] (0, 0) _ rfl (by (with_reducible repeat (first | refine blk_drewN ?_ _ | refine blk_drew ?_ | refine blk_alloc ?_ _)); refine blk_put (cs := #[.bool t19, .int .i64 t20, .int .i64 t21, .int .i64 0]) ?_ 3 _ rfl; (with_reducible repeat (first | refine blk_drewN ?_ _ | refine blk_drew ?_ | refine blk_alloc ?_ _)); refine blk_put (cs := #[.bool t19, .int .i64 t20, .int .i64 0, .int .i64 0]) ?_ 2 _ rfl; (with_reducible repeat (first | refine blk_drewN ?_ _ | refine blk_drew ?_ | refine blk_alloc ?_ _)); refine blk_put (cs := #[.bool t19, .int .i64 0, .int .i64 0, .int .i64 0]) ?_ 1 _ rfl; (with_reducible repeat (first | refine blk_drewN ?_ _ | refine blk_drew ?_ | refine blk_alloc ?_ _)); refine blk_put (cs := #[.bool false, .int .i64 0, .int .i64 0, .int .i64 0]) ?_ 0 _ rfl; (with_reducible repeat (first | refine blk_drewN ?_ _ | refine blk_drew ?_ | refine blk_alloc ?_ _)); exact BK13.out) Try.underlying48 rfl (by kernel_rfl)) rfl ?_
    exact ⟨by rfl, by repeat ((with_reducible first | exact HB.out | refine below_set ?_ GE13.out))⟩
end Go.Proofs.Ytkidnomkfdnciaa.All
namespace Go.Proofs.Ytkidnomkfdnciaa.All
open Go.RowKit Go.Proofs.YtkidnomkfdnciaaW.PrintWords Go.Proofs.YtkidnomkfdnciaaW.PrintLast Go.Proofs.YtkidnomkfdnciaaW.PrintMore
attribute [local go_sem] max2_int min2_int max_two min_two max_three min_three max_four min_four
set_option linter.unusedVariables false
set_option linter.unusedSimpArgs false
def CanonS (N : List S48) (G P : List Int) (n : S48) : S48 := if (mayB P && nodeB P n) = true then canonS (rootsS P) n else n
theorem Canon_some (N : List S48) (G P : List Int) (n : S48) (k : Nat) (hP : P.length ≤ 9223372036854775807) (hk : P.length + 1 < k) :
  memo_Canon.f k N G P n.f0 n.f1 n.f2 n.f3 = some ((CanonS N G P n).f0, (CanonS N G P n).f1, (CanonS N G P n).f2, (CanonS N G P n).f3) := by
 obtain ⟨k, rfl⟩ : ∃ m, k = m + 1 := ⟨k - 1, by omega⟩
 unfold memo_Canon.f CanonS
 rw [may_k P _ hP (by omega), Option.bind_some]
 by_cases hm : mayB P = true
 ·rw [if_pos hm, node_some, Option.bind_some, hm, Bool.true_and]
  cases hn : nodeB P n with
  | false => simp [memo_Canon.j0]
  | true =>
   simp only [Bool.not_true, memo_Canon.j0, Bool.false_eq_true, if_false, if_true]
   unfold sets_Roots.f
   rw [Option.bind_some]
   unfold memo_canon.f canonS
   cases hj : n.f0 with
   | false => simp [hj]
   | true =>
    unfold nodeB at hn
    rw [if_pos hj] at hn
    simp only [Bool.and_eq_true] at hn
    rw [if_pos rfl, inB_of_len (rootsS_length P hm), inB_of_len (rootsS_length P hm), hn.2.1, hn.2.2]
    simp
 ·rw [if_neg hm]
  simp [memo_Canon.j0, hm]
theorem Canon_calls {w : World} {AN AG AP : Option Addr} {cN cG cP : Nat} {N : List S48} {G P : List Int} (n : S48) (h : MemoAt w AN cN N AG cG G AP cP P) :
  Calls Try.prog 44 #[.agg #[.slice AN N.length cN, .slice AG G.length cG, .slice AP P.length cP], .agg #[.bool n.f0, .int .i64 n.f1, .int .i64 n.f2, .int .i64 n.f3]] w fun e w' => e = .returned (.agg #[.bool (CanonS N G P n).f0, .int .i64 (CanonS N G P n).f1, .int .i64 (CanonS N G P n).f2, .int .i64 (CanonS N G P n).f3]) ∧ Below w.heap.size w w' := by
 have hl : P.length ≤ maxLen := h.p.2.1
 exact memo_Canon.calls (P.length + 2) AN cN N AG cG G AP cP P n.f0 n.f1 n.f2 n.f3 _ _ _ _ w h.n h.nc h.g h.gc h.p h.pc (Canon_some N G P n _ (by unfold maxLen at hl; omega) (by omega))
theorem Find_calls {w : World} {AN AG AP : Option Addr} {cN cG cP : Nat} {N : List S48} {G P : List Int} (g : Int) (h : MemoAt w AN cN N AG cG G AP cP P) :
  Calls Try.prog 42 #[.agg #[.slice AN N.length cN, .slice AG G.length cG, .slice AP P.length cP], .int .i64 g] w fun e w' => e = .returned (.int .i64 (findS P g)) ∧ Below w.heap.size w w' :=
 memo_Find.calls 0 AN cN N AG cG G AP cP P g _ w h.n h.nc h.g h.gc h.p h.pc rfl
def lookS (N : List S48) (G P : List Int) (n : S48) : Int × Bool :=
 if (mayMB N G P && nodeB P n) = true then (match posN (canonsS N P) (canonS (rootsS P) n) N.length with
  | none => (-1, false)
  | some i => (findS P (G.getD i 0), true)) else (-1, false)
theorem box2_new (w : World) (AN : Option Addr) (cN : Nat) (N : List S48) (AG : Option Addr) (cG : Nat) (G : List Int) (AP : Option Addr) (cP : Nat) (P : List Int) (n : S48) :
  MBox ((w.alloc (.cells #[.slice AN N.length cN, .slice AG G.length cG, .slice AP P.length cP] 38)).alloc (.cells #[.bool n.f0, .int .i64 n.f1, .int .i64 n.f2, .int .i64 n.f3] 48)) w.heap.size AN cN N AG cG G AP cP P ∧
  ((w.alloc (.cells #[.slice AN N.length cN, .slice AG G.length cG, .slice AP P.length cP] 38)).alloc (.cells #[.bool n.f0, .int .i64 n.f1, .int .i64 n.f2, .int .i64 n.f3] 48)).heap[w.heap.size + 1]? = some (.cells #[.bool n.f0, .int .i64 n.f1, .int .i64 n.f2, .int .i64 n.f3] 48 (0, 0)) ∧
  Below w.heap.size w ((w.alloc (.cells #[.slice AN N.length cN, .slice AG G.length cG, .slice AP P.length cP] 38)).alloc (.cells #[.bool n.f0, .int .i64 n.f1, .int .i64 n.f2, .int .i64 n.f3] 48)) := by
 refine ⟨(box_new w AN cN N AG cG G AP cP P).below (below_alloc (Below.refl _ _) _), ?_, below_alloc (below_alloc (Below.refl _ _) _) _⟩
 have := heap_alloc_new (w.alloc (.cells #[.slice AN N.length cN, .slice AG G.length cG, .slice AP P.length cP] 38)) (.cells #[.bool n.f0, .int .i64 n.f1, .int .i64 n.f2, .int .i64 n.f3] 48)
 rw [alloc_size1 w] at this
 exact this
def NBox (w : World) (b : Nat) (n : S48) : Prop := w.heap[b]? = some (.cells #[.bool n.f0, .int .i64 n.f1, .int .i64 n.f2, .int .i64 n.f3] 48 (0, 0))
theorem NBox.below {w w' : World} {b : Nat} {n : S48} (h : NBox w b n) (hb : Below w.heap.size w w') : NBox w' b n := (hb.block b (blk_lt h)).trans h
theorem NBox.cells {w : World} {b : Nat} {n : S48} (h : NBox w b n) : w.cell? ⟨b, 0, none⟩ = some (.bool n.f0) ∧ w.cell? ⟨b, 1, none⟩ = some (.int .i64 n.f1) ∧ w.cell? ⟨b, 2, none⟩ = some (.int .i64 n.f2) ∧ w.cell? ⟨b, 3, none⟩ = some (.int .i64 n.f3) :=
 ⟨(blk_cell h 0).trans rfl, (blk_cell h 1).trans rfl, (blk_cell h 2).trans rfl, (blk_cell h 3).trans rfl⟩
set_option maxHeartbeats 8000000 in
set_option maxRecDepth 100000 in
theorem Look_no {w : World} {AN AG AP : Option Addr} {cN cG cP : Nat} {N : List S48} {G P : List Int} (n : S48) (h : MemoAt w AN cN N AG cG G AP cP P) (hno : mayMB N G P = false ∨ mayMB N G P = true ∧ nodeB P n = false) :
  Calls Try.prog 45 #[.agg #[.slice AN N.length cN, .slice AG G.length cG, .slice AP P.length cP], .agg #[.bool n.f0, .int .i64 n.f1, .int .i64 n.f2, .int .i64 n.f3]] w fun e w' => e = .returned (.tuple #[.int .i64 (-1), .bool false]) ∧ Below w.heap.size w w' := by
 obtain ⟨hb, hn, hbb⟩ := box2_new w AN cN N AG cG G AP cP P n
 obtain ⟨hd0, hd1, hd2⟩ := hb.cells
 obtain ⟨he0, he1, he2, he3⟩ := NBox.cells hn
 have HBX := Aside0.mk hb
 have HNX := Aside0.mk (show NBox _ _ n from hn)
 have HM := Aside0.mk (h.below hbb)
 have HBB := Aside0.mk hbb
 have HF := Aside0.mk (mmay_calls (h.below hbb))
 have HN := Aside0.mk (fun (W : World) (h : MemoAt W AN cN N AG cG G AP cP P) => node_calls n h)
 clear h hb hn hbb
 rcases hno with h1 | ⟨h1, h2⟩
 ·rw [h1] at HF
  clear h1
  go_enter Try.func45, Try.ntmps45
  go_wp2_with (go_at_call 41; refine HF.out.mono ?_; rintro e w1 ⟨rfl, hb1⟩; have HB1 := Aside0.mk hb1; clear hb1)
  go_ret2
  exact ⟨rfl, below_then HBB.out HBB.out.size HB1.out⟩
 ·rw [h1] at HF
  rw [h2] at HN
  clear h1 h2
  go_enter Try.func45, Try.ntmps45
  go_wp2_with (first | (go_at_call 41; refine HF.out.mono ?_; rintro e w1 ⟨rfl, hb1⟩; have HB1 := Aside0.mk hb1; obtain ⟨ha0, ha1, ha2⟩ := (HBX.out.below hb1).cells; obtain ⟨hc0, hc1, hc2, hc3⟩ := (HNX.out.below hb1).cells; clear hb1) | (go_at_call 78; refine (HN.out _ (HM.out.below HB1.out)).mono ?_; rintro e w2 ⟨rfl, hb2⟩; have HB2 := Aside0.mk (HB1.out.trans (hb2.mono HB1.out.size)); clear hb2))
  go_ret2
  exact ⟨rfl, below_then HBB.out HBB.out.size HB2.out⟩
set_option maxHeartbeats 8000000 in
set_option maxRecDepth 100000 in
theorem Look_yes {w : World} {AN AG AP : Option Addr} {cN cG cP : Nat} {N : List S48} {G P : List Int} (n : S48) (h : MemoAt w AN cN N AG cG G AP cP P) (h1 : mayMB N G P = true) (h2 : nodeB P n = true) :
  Calls Try.prog 45 #[.agg #[.slice AN N.length cN, .slice AG G.length cG, .slice AP P.length cP], .agg #[.bool n.f0, .int .i64 n.f1, .int .i64 n.f2, .int .i64 n.f3]] w fun e w' => e = .returned (.tuple #[.int .i64 (lookS N G P n).1, .bool (lookS N G P n).2]) ∧ Below w.heap.size w w' := by
 obtain ⟨hb, hn, hbb⟩ := box2_new w AN cN N AG cG G AP cP P n
 obtain ⟨hd0, hd1, hd2⟩ := hb.cells
 obtain ⟨he0, he1, he2, he3⟩ := NBox.cells hn
 have HBX := Aside0.mk hb
 have HNX := Aside0.mk (show NBox _ _ n from hn)
 have HM := Aside0.mk (h.below hbb)
 have HBB := Aside0.mk hbb
 have HF := Aside0.mk (mmay_calls (h.below hbb))
 have HN := Aside0.mk (fun (W : World) (h : MemoAt W AN cN N AG cG G AP cP P) => node_calls n h)
 have hfm : formB N G P = true := by unfold mayMB at h1; simp only [Bool.and_eq_true] at h1; exact h1.1
 have hcf : confS N G P = none := by unfold mayMB at h1; simp only [Bool.and_eq_true, Option.isNone_iff_eq_none] at h1; exact h1.2
 have HI := Aside0.mk (fun (W : World) (h : MemoAt W AN cN N AG cG G AP cP P) => first_calls h hfm)
 rw [hcf] at HI
 simp only [firstR, Option.isNone_none] at HI
 have HC := Aside0.mk (fun (W : World) (h : MemoAt W AN cN N AG cG G AP cP P) => Canon_calls n h)
 have HD := Aside0.mk (fun (W : World) (g : Int) (h : MemoAt W AN cN N AG cG G AP cP P) => Find_calls g h)
 have hm := (formB_parts hfm).1
 have hGN := (formB_parts hfm).2.1
 have hC : CanonS N G P n = canonS (rootsS P) n := by unfold CanonS; rw [hm, h2]; rfl
 rw [hC] at HC
 have hwf : wfN (canonS (rootsS P) n) = true := canon_wf hm h2
 have hl : lookS N G P n = (match posN (canonsS N P) (canonS (rootsS P) n) N.length with
  | none => (-1, false)
  | some i => (findS P (G.getD i 0), true)) := by unfold lookS; rw [h1, h2]; rfl
 rw [hl]
 rw [h1] at HF
 rw [h2] at HN
 obtain ⟨c, hc⟩ : ∃ c, c = canonS (rootsS P) n := ⟨_, rfl⟩
 rw [← hc] at HC hwf ⊢
 obtain ⟨cs, hcs⟩ : ∃ cs, cs = canonsS N P := ⟨_, rfl⟩
 rw [← hcs] at HI ⊢
 obtain ⟨⟨r1, r2⟩, hr⟩ : ∃ r : Int × Bool, (match posN cs c N.length with
  | none => (-1, false)
  | some i => (findS P (G.getD i 0), true)) = r := ⟨_, rfl⟩
 rw [hr]
 have HRR := Aside0.mk hr
 have HWF := Aside0.mk hwf
 have HGN := Aside0.mk hGN
 have HH := Aside0.mk h
 clear hr h hl hb hn hbb hfm hcf hm hC hc hcs hwf h1 h2 hGN
 go_enter Try.func45, Try.ntmps45
 go_upto_if 35 with (first | (go_at_call 41; refine (HF.out).mono ?_; rintro e w1 ⟨rfl, hb1⟩; have HB1 := Aside0.mk hb1; obtain ⟨ha0, ha1, ha2⟩ := (HBX.out.below hb1).cells; obtain ⟨hc0, hc1, hc2, hc3⟩ := (HNX.out.below hb1).cells; clear hb1) | (go_at_call 78; refine (HN.out _ (HM.out.below HB1.out)).mono ?_; rintro e w2 ⟨rfl, hb2⟩; have HB2 := Aside0.mk (HB1.out.trans (hb2.mono HB1.out.size)); obtain ⟨hf0, hf1, hf2⟩ := (HBX.out.below HB2.out).cells; clear hb2) | (go_at_call 76; (refine (HI.out _ (HM.out.below HB2.out)).mono ?_; rintro e w3 ⟨bm, rfl, hb3, hbm, hmap⟩; have HB3 := Aside0.mk (HB2.out.trans (hb3.mono HB2.out.size)); obtain ⟨nn, hmap, hnn⟩ := hmap trivial; have HMP := Aside0.mk hmap; obtain ⟨hg0, hg1, hg2⟩ := (HBX.out.below HB3.out).cells; obtain ⟨hh0, hh1, hh2, hh3⟩ := (HNX.out.below HB3.out).cells; have hs3 := (HBX.out.below HB3.out).lt; have hs3' := blk_lt (HNX.out.below HB3.out); clear hb3 hmap)) | (go_at_call 44; (refine (HC.out _ ((HM.out.below HB3.out).below (below_alloc (Below.refl _ _) _))).mono ?_; rintro e w4 ⟨rfl, hb4⟩; have HB4 := Aside0.mk (HB3.out.trans (((below_alloc (Below.refl _ _) _).trans (hb4.mono (by simp))).mono HB3.out.size)); have HMP4 := Aside0.mk ((HMP.out.below (below_alloc (Below.refl _ _) _)).below hb4); obtain ⟨hk0, hk1, hk2⟩ := (HBX.out.below HB4.out).cells; clear hb4)) | (at_lookup; (refine NMap.look_ok HMP4.out rfl _ _ rfl rfl c rfl HWF.out ?_)))
 cases hp : posN cs c N.length with
 | none =>
  simp only [Option.isNone_none]
  have hr := HRR.out
  rw [hp] at hr
  obtain ⟨rfl, rfl⟩ := Prod.mk.inj hr
  go_wp2
  go_ret2
  exact ⟨rfl, below_then HBB.out HBB.out.size HB4.out⟩
 | some i =>
  have hAt : atN (fun x => posN cs x N.length) c = (i : Int) := by unfold atN; simp only; rw [hp]
  have hi := posN_lt _ _ _ _ hp
  rw [hAt]
  obtain ⟨aG, e, hg⟩ := Kd.at_int (Kd.C_below HM.out.g HB4.out) (i : Int) (by omega) (by have := HGN.out; omega)
  subst e
  have HM4 := Aside0.mk (HM.out.below HB4.out)
  obtain ⟨g, hge⟩ : ∃ g, g = rd G (i : Int) := ⟨_, rfl⟩
  rw [← hge, Int.toNat_natCast] at hg
  have hl0 : (0 : Int) ≤ (i : Int) := by omega
  have hl1 : (i : Int) < G.length := by have := HGN.out; omega
  have hd0 := fun d os => cell_regrown hk0 d os
  have hd1 := fun d os => cell_regrown hk1 d os
  have hd2 := fun d os => cell_regrown hk2 d os
  have hgg := fun d os => cell_regrown hg d os
  have cD := fun d os => Calls.regrown_of (HD.out (Go.Sort.grow (redrawn w4 d) os) g (HM4.out.below (below_regrown w4 d os)))
  have hge2 : findS P (G.getD i 0) = findS P g := by rw [hge, rd, Int.toNat_natCast]
  have hr := HRR.out
  rw [hp] at hr
  simp only [hge2] at hr
  obtain ⟨rfl, rfl⟩ := Prod.mk.inj hr
  simp only [Option.isNone_some]
  clear hr
  clear hge hge2 hp hAt
  go_wp2
  refine wp_region_quiet_below (by first | assumption | kernel_rfl) (by kernel_rfl) ?_
  repeat (quiet_step (exact cD _ _))
  refine wpQuiet_nil ?_
  intro _ hw'
  obtain ⟨⟨dq, osq⟩, hw''⟩ := hw'
  subst hw''
  go_wp2
  go_ret2
  exact ⟨rfl, (below_then HBB.out HBB.out.size HB4.out).trans (below_regrown w4 dq osq |>.mono (by have := HB4.out.size; have := HBB.out.size; omega))⟩
theorem Look_calls {w : World} {AN AG AP : Option Addr} {cN cG cP : Nat} {N : List S48} {G P : List Int} (n : S48) (h : MemoAt w AN cN N AG cG G AP cP P) :
  Calls Try.prog 45 #[.agg #[.slice AN N.length cN, .slice AG G.length cG, .slice AP P.length cP], .agg #[.bool n.f0, .int .i64 n.f1, .int .i64 n.f2, .int .i64 n.f3]] w fun e w' => e = .returned (.tuple #[.int .i64 (lookS N G P n).1, .bool (lookS N G P n).2]) ∧ Below w.heap.size w w' := by
 cases h1 : mayMB N G P with
 | false =>
  have : lookS N G P n = (-1, false) := by unfold lookS; rw [h1]; rfl
  rw [this]
  exact Look_no n h (.inl h1)
 | true =>
  cases h2 : nodeB P n with
  | false =>
   have : lookS N G P n = (-1, false) := by unfold lookS; rw [h1, h2]; rfl
   rw [this]
   exact Look_no n h (.inr ⟨h1, h2⟩)
  | true => exact Look_yes n h h1 h2
def memo_Look.f (l0_0 : List (S48)) (l0_1 : List Int) (l0_2 : List Int) (a1_0 : Bool) (a1_1 : Int) (a1_2 : Int) (a1_3 : Int) : Option (Int × Bool) := some (lookS l0_0 l0_1 l0_2 ⟨a1_0, a1_1, a1_2, a1_3⟩)
theorem memo_Look.calls (A0_0 : Option Addr) (c0_0 : Nat) (l0_0 : List (S48)) (A0_1 : Option Addr) (c0_1 : Nat) (l0_1 : List Int) (A0_2 : Option Addr) (c0_2 : Nat) (l0_2 : List Int) (a1_0 : Bool) (a1_1 : Int) (a1_2 : Int) (a1_3 : Int) (r1 : Int) (r2 : Bool) (w : World) (hr0_0 : Kd.C k48 w A0_0 l0_0.length l0_0) (hc0_0 : l0_0.length ≤ c0_0) (hr0_1 : Kd.C (Kd.int .i64) w A0_1 l0_1.length l0_1) (hc0_1 : l0_1.length ≤ c0_1) (hr0_2 : Kd.C (Kd.int .i64) w A0_2 l0_2.length l0_2) (hc0_2 : l0_2.length ≤ c0_2) (h : memo_Look.f l0_0 l0_1 l0_2 a1_0 a1_1 a1_2 a1_3 = some (r1, r2)) :
  Calls Try.prog 45 #[.agg #[.slice A0_0 l0_0.length c0_0, .slice A0_1 l0_1.length c0_1, .slice A0_2 l0_2.length c0_2], .agg #[.bool a1_0, .int .i64 a1_1, .int .i64 a1_2, .int .i64 a1_3]] w fun e w' => e = .returned (.tuple #[.int .i64 r1, .bool r2]) ∧ Below w.heap.size w w' := by
 have h := Option.some.inj h
 have := Look_calls (N := l0_0) (G := l0_1) (P := l0_2) ⟨a1_0, a1_1, a1_2, a1_3⟩ ⟨hr0_0, hc0_0, hr0_1, hc0_1, hr0_2, hc0_2⟩
 rw [h] at this
 exact this
end Go.Proofs.Ytkidnomkfdnciaa.All
