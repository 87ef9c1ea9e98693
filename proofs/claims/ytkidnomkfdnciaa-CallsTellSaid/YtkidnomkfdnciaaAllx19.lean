/- Functions of the program as plain Lean functions, and proofs that the calls do what these say; written for this claim by a program of the session (wip/tools/mkprint.py), checked by Lean. -/
import Derived.Test.YtkidnomkfdnciaaSets2
import Derived.Test.YtkidnomkfdnciaaBk
import Derived.Test.YtkidnomkfdnciaaMv
import Derived.Test.YtkidnomkfdnciaaAllx10
import Derived.Test.YtkidnomkfdnciaaAllx17
import Derived.Test.YtkidnomkfdnciaaQRel
namespace Go.Proofs.Ytkidnomkfdnciaa.All
open Go.RowKit Go.Proofs.YtkidnomkfdnciaaW.PrintWords Go.Proofs.YtkidnomkfdnciaaW.PrintLast Go.Proofs.YtkidnomkfdnciaaW.PrintMore
attribute [local go_sem] max2_int min2_int max_two min_two max_three min_three max_four min_four
set_option linter.unusedVariables false
set_option linter.unusedSimpArgs false
mutual
def memo_Put.j0 : Nat → Int → Bool → List (S48) → List Int → List Int → Bool → Int → Int → Int → Option ((List (S48)) × List Int × List Int × Int × Int)
 | 0, _, _, _, _, _, _, _, _, _ => none
 | k + 1, x2, x30, x12000, x12001, x12002, x13000, x13001, x13002, x13003 => if x30 = true then ((memo_own.f k x12000 x12001 x12002).bind fun bt17 => (some (bt17.1, bt17.2.1, bt17.2.2, (-1), 1))) else ((memo_Look.f x12000 x12001 x12002 x13000 x13001 x13002 x13003).bind fun bt26 => (if bt26.2 = true then (if x2 = (-1) then (memo_Put.j1 k x2 bt26.1 bt26.2 true x12000 x12001 x12002 x13000 x13001 x13002 x13003) else ((memo_Find.f k x12000 x12001 x12002 x2).bind fun t28 => (memo_Put.j1 k x2 bt26.1 bt26.2 (t28 == bt26.1) x12000 x12001 x12002 x13000 x13001 x13002 x13003))) else (memo_Put.j1 k x2 bt26.1 bt26.2 false x12000 x12001 x12002 x13000 x13001 x13002 x13003)))
def memo_Put.j2 : Nat → Int → List (S48) → List Int → List Int → Bool → Int → Int → Int → Option ((List (S48)) × List Int × List Int × Int × Int)
 | 0, _, _, _, _, _, _, _, _ => none
 | k + 1, x2, x12000, x12001, x12002, x13000, x13001, x13002, x13003 => (memo_own.f k x12000 x12001 x12002).bind fun bt67 => (if x2 = (-1) then ((some (([(bt67.2.2.length : Int)] : List Int) : List Int)).bind fun y77 => (if bt67.2.2.length + y77.length < 17592186044416 then ((some (bt67.2.2 ++ y77 : List Int)).bind fun y80 => ((some (([(⟨x13000, x13001, x13002, x13003⟩ : S48)] : List (S48)) : List (S48))).bind fun y83 => (if bt67.1.length + y83.length < 4398046511104 then ((some (bt67.1 ++ y83 : List (S48))).bind fun y86 => ((some (([(bt67.2.2.length : Int)] : List Int) : List Int)).bind fun y89 => (if bt67.2.1.length + y89.length < 17592186044416 then ((some (bt67.2.1 ++ y89 : List Int)).bind fun y92 => ((memo_Find.f k y86 y92 y80 (bt67.2.2.length : Int)).bind fun t95 => (some (y86, y92, y80, t95, 0)))) else (none)))) else (none)))) else (none))) else ((some (([(⟨x13000, x13001, x13002, x13003⟩ : S48)] : List (S48)) : List (S48))).bind fun y96 => (if bt67.1.length + y96.length < 4398046511104 then ((some (bt67.1 ++ y96 : List (S48))).bind fun y99 => ((some (([x2] : List Int) : List Int)).bind fun y102 => (if bt67.2.1.length + y102.length < 17592186044416 then ((some (bt67.2.1 ++ y102 : List Int)).bind fun y105 => ((memo_Find.f k y99 y105 bt67.2.2 x2).bind fun t108 => (some (y99, y105, bt67.2.2, t108, 0)))) else (none)))) else (none))))
def memo_Put.j1 : Nat → Int → Int → Bool → Bool → List (S48) → List Int → List Int → Bool → Int → Int → Int → Option ((List (S48)) × List Int × List Int × Int × Int)
 | 0, _, _, _, _, _, _, _, _, _, _, _ => none
 | k + 1, x2, x9, x10, x39, x12000, x12001, x12002, x13000, x13001, x13002, x13003 => if x39 = true then ((memo_own.f k x12000 x12001 x12002).bind fun bt29 => (some (bt29.1, bt29.2.1, bt29.2.2, x9, 0))) else (if x10 = true then ((memo_Merge.f k x12000 x12001 x12002 x2 x9).bind fun bt38 => (some (bt38.1, bt38.2.1, bt38.2.2.1, bt38.2.2.2.1, bt38.2.2.2.2))) else (if (x12000.length : Int) = 400 then ((memo_own.f k x12000 x12001 x12002).bind fun bt49 => (some (bt49.1, bt49.2.1, bt49.2.2, (-1), 3))) else (if x2 = (-1) then (if (x12002.length : Int) = 400 then ((memo_own.f k x12000 x12001 x12002).bind fun bt58 => (some (bt58.1, bt58.2.1, bt58.2.2, (-1), 3))) else (memo_Put.j2 k x2 x12000 x12001 x12002 x13000 x13001 x13002 x13003)) else (memo_Put.j2 k x2 x12000 x12001 x12002 x13000 x13001 x13002 x13003))))
end
def memo_Put.f (k : Nat) (l0_0 : List (S48)) (l0_1 : List Int) (l0_2 : List Int) (a1_0 : Bool) (a1_1 : Int) (a1_2 : Int) (a1_3 : Int) (a2 : Int) : Option ((List (S48)) × List Int × List Int × Int × Int) := (memo_May.f l0_0 l0_1 l0_2).bind fun t14 => (if t14 = true then ((memo_node.f l0_0 l0_1 l0_2 a1_0 a1_1 a1_2 a1_3).bind fun t15 => (if t15 = true then (if a2 = (-1) then (memo_Put.j0 k a2 false l0_0 l0_1 l0_2 a1_0 a1_1 a1_2 a1_3) else ((memo_is.f l0_0 l0_1 l0_2 a2).bind fun t16 => (memo_Put.j0 k a2 (!t16) l0_0 l0_1 l0_2 a1_0 a1_1 a1_2 a1_3))) else (memo_Put.j0 k a2 true l0_0 l0_1 l0_2 a1_0 a1_1 a1_2 a1_3))) else (memo_Put.j0 k a2 true l0_0 l0_1 l0_2 a1_0 a1_1 a1_2 a1_3))
def memo_Put.T15 : Bool × List (List Nat × List Nat) := (true, [([], []), ([0], [0]), ([], []), ([2], [2]), ([1, 3], [1, 3]), ([], []), ([5], [5]), ([], []), ([7], [7]), ([6, 8, 4], [6, 8]), ([0, 1, 2, 3, 4, 5, 6], []), ([10, 4, 9, 0, 1, 2, 3, 4, 5, 6], [4, 10]), ([0, 1, 2, 3, 4, 5, 6, 7, 8, 9, 10, 11], []), ([12, 9, 11, 0, 1, 2, 3, 4, 5, 6, 7, 8, 9, 10, 11], [9, 12])])
def memo_Put.B15 : List Nat := [0, 1, 0, 4, 15, 0, 32, 0, 128, 511, 127, 2047, 4095, 8191]
theorem memo_Put.tab15 : rtab .any (opsOf Try.f47 15) = memo_Put.T15 := by kernel_rfl
theorem memo_Put.bits15 : waitsOk memo_Put.T15.2 memo_Put.B15 = true := by kernel_rfl
set_option maxHeartbeats 8000000 in
set_option maxRecDepth 100000 in
theorem memo_Put.calls (k : Nat) (A0_0 : Option Addr) (c0_0 : Nat) (l0_0 : List (S48)) (A0_1 : Option Addr) (c0_1 : Nat) (l0_1 : List Int) (A0_2 : Option Addr) (c0_2 : Nat) (l0_2 : List Int) (a1_0 : Bool) (a1_1 : Int) (a1_2 : Int) (a1_3 : Int) (a2 : Int) (r1 : List (S48)) (r2 : List Int) (r3 : List Int) (r4 : Int) (r5 : Int) (w : World) (hr0_0 : Kd.C k48 w A0_0 l0_0.length l0_0) (hc0_0 : l0_0.length ≤ c0_0) (hr0_1 : Kd.C (Kd.int .i64) w A0_1 l0_1.length l0_1) (hc0_1 : l0_1.length ≤ c0_1) (hr0_2 : Kd.C (Kd.int .i64) w A0_2 l0_2.length l0_2) (hc0_2 : l0_2.length ≤ c0_2) (h : memo_Put.f k l0_0 l0_1 l0_2 a1_0 a1_1 a1_2 a1_3 a2 = some (r1, r2, r3, r4, r5)) :
  Calls Try.prog 47 #[.agg #[.slice A0_0 l0_0.length c0_0, .slice A0_1 l0_1.length c0_1, .slice A0_2 l0_2.length c0_2], .agg #[.bool a1_0, .int .i64 a1_1, .int .i64 a1_2, .int .i64 a1_3], .int .i64 a2] w fun e w' => ∃ v0_ v1_ v2_ : Value, e = .returned (.tuple #[.agg #[v0_, v1_, v2_], .int .i64 r4, .int .i64 r5]) ∧ Kd.R k48 48 w' w.heap.size (fun _ => True) v0_ r1 ∧ Kd.R (Kd.int .i64) 3 w' w.heap.size (fun k_ => some k_ ≠ (v2_ : Value).ownBlock) v1_ r2 ∧ Kd.R (Kd.int .i64) 3 w' w.heap.size (fun k_ => some k_ ≠ (v1_ : Value).ownBlock) v2_ r3 ∧ Below w.heap.size w w' := by
 have hu38 := Try.underlying38
 have hu48 := Try.underlying48
 have HR0_0 := Aside0.mk hr0_0
 have HC0_0 := Aside0.mk hc0_0
 clear hr0_0 hc0_0
 have HR0_1 := Aside0.mk hr0_1
 have HC0_1 := Aside0.mk hc0_1
 clear hr0_1 hc0_1
 have HR0_2 := Aside0.mk hr0_2
 have HC0_2 := Aside0.mk hc0_2
 clear hr0_2 hc0_2
 have HB := Aside0.mk (Below.refl w.heap.size w)
 have H : ((memo_May.f l0_0 l0_1 l0_2).bind fun t14 => (if t14 = true then ((memo_node.f l0_0 l0_1 l0_2 a1_0 a1_1 a1_2 a1_3).bind fun t15 => (if t15 = true then (if a2 = (-1) then (memo_Put.j0 k a2 false l0_0 l0_1 l0_2 a1_0 a1_1 a1_2 a1_3) else ((memo_is.f l0_0 l0_1 l0_2 a2).bind fun t16 => (memo_Put.j0 k a2 (!t16) l0_0 l0_1 l0_2 a1_0 a1_1 a1_2 a1_3))) else (memo_Put.j0 k a2 true l0_0 l0_1 l0_2 a1_0 a1_1 a1_2 a1_3))) else (memo_Put.j0 k a2 true l0_0 l0_1 l0_2 a1_0 a1_1 a1_2 a1_3))) = some (r1, r2, r3, r4, r5) := h
 clear h
 have HC4 := Aside0.mk H
 clear H
 go_enter Try.func47, Try.ntmps47
 go_upto_region 1 with (first | ((with_reducible refine gate_dst (N := 3) rfl ?_); (try (refine gate_guard (by rfl) ?_; dsimp only)); refine box_event ?hg (N := 3) ?hd (cs := #[.slice A0_0 l0_0.length c0_0, .slice A0_1 l0_1.length c0_1, .slice A0_2 l0_2.length c0_2]) (t := 38) ?hr ?_; (case hd => rfl); (case hg => rfl); (case hr => first | (go_simp; done) ); intro gb11 hg w5 hbox hb; have BK11 := Aside0.mk (hbox); have GW11 := Aside0.mk ((by rw [hg]; exact (below_size (by exact wM HB.out)) : w.heap.size ≤ gb11)); have GE11 := Aside0.mk ((by rw [hg]; exact (below_size (by exact wM HB.out)) : w.heap.size ≤ gb11)); replace HB := Aside0.mk (below_step (by exact wM HB.out) hb); clear hb hbox hg) | ((with_reducible refine gate_dst (N := 4) rfl ?_); (try (refine gate_guard (by rfl) ?_; dsimp only)); refine box_event ?hg (N := 4) ?hd (cs := #[.bool a1_0, .int .i64 a1_1, .int .i64 a1_2, .int .i64 a1_3]) (t := 48) ?hr ?_; (case hd => rfl); (case hg => rfl); (case hr => first | (go_simp; done) ); intro gb12 hg w6 hbox hb; have BK12 := Aside0.mk (hbox); have GW12 := Aside0.mk ((by rw [hg]; exact (below_size (by exact wM HB.out)) : w.heap.size ≤ gb12)); have GE12 := Aside0.mk ((by rw [hg]; exact (below_size (by exact wM HB.out)) : w.heap.size ≤ gb12)); replace HB := Aside0.mk (below_step (by exact wM HB.out) hb); have NB11_12 := Aside0.mk ((by rw [hg]; exact Nat.ne_of_lt (blk_lt (kM BK11.out)) : gb11 ≠ gb12)); have NB12_11 := Aside0.mk ((by rw [hg]; exact Nat.ne_of_gt (blk_lt (kM BK11.out)) : gb12 ≠ gb11)); replace BK11 := Aside0.mk (blk_below (kM BK11.out) hb); clear hb hbox hg) | ((with_reducible refine gate_dst (N := 6) rfl ?_); (try (refine gate_guard (by rfl) ?_; dsimp only)); refine box_event ?hg (N := 6) ?hd (cs := #[.slice none 0 0, .slice none 0 0, .slice none 0 0]) (t := 38) ?hr ?_; (case hd => rfl); (case hg => rfl); (case hr => first | (go_simp; done) ); intro gb13 hg w7 hbox hb; have BK13 := Aside0.mk (hbox); have GW13 := Aside0.mk ((by rw [hg]; exact (below_size (by exact wM HB.out)) : w.heap.size ≤ gb13)); have GE13 := Aside0.mk ((by rw [hg]; exact (below_size (by exact wM HB.out)) : w.heap.size ≤ gb13)); replace HB := Aside0.mk (below_step (by exact wM HB.out) hb); have NB11_13 := Aside0.mk ((by rw [hg]; exact Nat.ne_of_lt (blk_lt (kM BK11.out)) : gb11 ≠ gb13)); have NB13_11 := Aside0.mk ((by rw [hg]; exact Nat.ne_of_gt (blk_lt (kM BK11.out)) : gb13 ≠ gb11)); replace BK11 := Aside0.mk (blk_below (kM BK11.out) hb); have NB12_13 := Aside0.mk ((by rw [hg]; exact Nat.ne_of_lt (blk_lt (kM BK12.out)) : gb12 ≠ gb13)); have NB13_12 := Aside0.mk ((by rw [hg]; exact Nat.ne_of_gt (blk_lt (kM BK12.out)) : gb13 ≠ gb12)); replace BK12 := Aside0.mk (blk_below (kM BK12.out) hb); clear hb hbox hg))
 (try simp only [Act.put, List.setIfInBounds_toArray, List.set_cons_zero, List.set_cons_succ])
 go_cut [30] (fun v30 wc => ∃ (kq : Nat) (x30_3 : Bool), v30 = .bool x30_3 ∧ Aside0 (memo_Put.j0 kq a2 x30_3 l0_0 l0_1 l0_2 a1_0 a1_1 a1_2 a1_3 = some (r1, r2, r3, r4, r5)) ∧ Aside0 (kq ≤ k) ∧ Aside0 (wc.heap[gb11]? = some (.cells #[(.slice A0_0 l0_0.length c0_0), (.slice A0_1 l0_1.length c0_1), (.slice A0_2 l0_2.length c0_2)] 38 (0, 0))) ∧ Aside0 (wc.heap[gb12]? = some (.cells #[.bool a1_0, .int .i64 a1_1, .int .i64 a1_2, .int .i64 a1_3] 48 (0, 0))) ∧ Aside0 (wc.heap[gb13]? = some (.cells #[(.slice none 0 0), (.slice none 0 0), (.slice none 0 0)] 38 (0, 0))) ∧ Aside0 (Below w.heap.size w wc))
 case first =>
  have H := HC4.out
  clear HC4
  replace H := Option.bind_eq_some_iff.mp H
  obtain ⟨t14, A80, H⟩ := H
  have A8 := Aside0.mk A80
  clear A80
  by_cases c9 : t14 = true
  ·subst c9
   rw [if_pos rfl] at H
   replace H := Option.bind_eq_some_iff.mp H
   obtain ⟨t15, A100, H⟩ := H
   have A10 := Aside0.mk A100
   clear A100
   by_cases c11 : t15 = true
   ·subst c11
    rw [if_pos rfl] at H
    by_cases c12 : a2 = (-1)
    ·rw [if_pos c12] at H
     have c12b0 : (a2 == (-1)) = true := beq_iff_eq.mpr c12
     have c12b1 : (a2 != (-1)) = false := bne_eq_false_iff_eq.mpr c12
     clear c12
     (skip)
     have H' := Aside0.mk H
     clear H
     have hnb13 := NB11_12.out
     have hnc13 := NB12_11.out
     have hnb14 := NB11_13.out
     have hnc14 := NB13_11.out
     obtain ⟨hcz15_0, hcz15_1, hcz15_2, hfz15_0, hfz15_1, hfz15_2⟩ := bk3 BK11.out
     go_wp2_with (first | ((with_reducible refine gate_callee (f := 41) rfl ?_); refine goesL_ (some 13) rfl rfl Try.func41 (by kernel_rfl) rfl #[.agg #[.slice A0_0 l0_0.length c0_0, .slice A0_1 l0_1.length c0_1, .slice A0_2 l0_2.length c0_2]] rfl (by (try simp only [List.map_toArray, List.map_cons, List.map_nil]); first | rfl ) ?_; (with_reducible refine (memo_May.calls _ _ l0_0 _ _ l0_1 _ _ l0_2 true _ ?side1 ?side2 ?side3 ?side4 ?side5 ?side6 A8.out).mono ?_); (case side1 => exact cM (Kd.C_below HR0_0.out HB.out)); (case side2 => exact HC0_0.out); (case side3 => exact cM (Kd.C_below HR0_1.out HB.out)); (case side4 => exact HC0_1.out); (case side5 => exact cM (Kd.C_below HR0_2.out HB.out)); (case side6 => exact HC0_2.out); rintro e w16 ⟨rfl, hb⟩; refine ⟨_, rfl, ?_⟩; replace BK11 := Aside0.mk (blk_below (kM BK11.out) hb); replace BK12 := Aside0.mk (blk_below (kM BK12.out) hb); replace BK13 := Aside0.mk (blk_below (kM BK13.out) hb); replace HB := Aside0.mk (below_step (by exact wM HB.out) hb); (try clear hb); obtain ⟨hcz17_0, hcz17_1, hcz17_2, hfz17_0, hfz17_1, hfz17_2⟩ := bk3 BK11.out; have hnb18 := NB12_13.out; have hnc18 := NB13_12.out; obtain ⟨hcz19_0, hcz19_1, hcz19_2, hcz19_3, hfz19_0, hfz19_1, hfz19_2, hfz19_3⟩ := bk4 BK12.out) | (go_at_call 78; (with_reducible refine (memo_node.calls _ _ l0_0 _ _ l0_1 _ _ l0_2 a1_0 a1_1 a1_2 a1_3 true _ ?side1 ?side2 ?side3 ?side4 ?side5 ?side6 A10.out).mono ?_); (case side1 => exact cM (Kd.C_below HR0_0.out HB.out)); (case side2 => exact HC0_0.out); (case side3 => exact cM (Kd.C_below HR0_1.out HB.out)); (case side4 => exact HC0_1.out); (case side5 => exact cM (Kd.C_below HR0_2.out HB.out)); (case side6 => exact HC0_2.out); rintro e w20 ⟨rfl, hb⟩; replace BK11 := Aside0.mk (blk_below (kM BK11.out) hb); replace BK12 := Aside0.mk (blk_below (kM BK12.out) hb); replace BK13 := Aside0.mk (blk_below (kM BK13.out) hb); replace HB := Aside0.mk (below_step (by exact wM HB.out) hb); (try clear hb); ))
     go_meet
     case rel => exact ⟨_, (false), (by rfl), H', ⟨by omega⟩, ⟨kM BK11.out⟩, ⟨kM BK12.out⟩, ⟨kM BK13.out⟩, ⟨by repeat ((with_reducible first | exact HB.out ))⟩⟩
    ·rw [if_neg c12] at H
     have c12b0 : (a2 == (-1)) = false := beq_eq_false_iff_ne.mpr c12
     have c12b1 : (a2 != (-1)) = true := bne_iff_ne.mpr c12
     (skip)
     replace H := Option.bind_eq_some_iff.mp H
     obtain ⟨t16, A210, H⟩ := H
     have A21 := Aside0.mk A210
     clear A210
     have H' := Aside0.mk H
     clear H
     have hnb22 := NB11_12.out
     have hnc22 := NB12_11.out
     have hnb23 := NB11_13.out
     have hnc23 := NB13_11.out
     obtain ⟨hcz24_0, hcz24_1, hcz24_2, hfz24_0, hfz24_1, hfz24_2⟩ := bk3 BK11.out
     go_wp2_with (first | ((with_reducible refine gate_callee (f := 41) rfl ?_); refine goesL_ (some 13) rfl rfl Try.func41 (by kernel_rfl) rfl #[.agg #[.slice A0_0 l0_0.length c0_0, .slice A0_1 l0_1.length c0_1, .slice A0_2 l0_2.length c0_2]] rfl (by (try simp only [List.map_toArray, List.map_cons, List.map_nil]); first | rfl ) ?_; (with_reducible refine (memo_May.calls _ _ l0_0 _ _ l0_1 _ _ l0_2 true _ ?side1 ?side2 ?side3 ?side4 ?side5 ?side6 A8.out).mono ?_); (case side1 => exact cM (Kd.C_below HR0_0.out HB.out)); (case side2 => exact HC0_0.out); (case side3 => exact cM (Kd.C_below HR0_1.out HB.out)); (case side4 => exact HC0_1.out); (case side5 => exact cM (Kd.C_below HR0_2.out HB.out)); (case side6 => exact HC0_2.out); rintro e w25 ⟨rfl, hb⟩; refine ⟨_, rfl, ?_⟩; replace BK11 := Aside0.mk (blk_below (kM BK11.out) hb); replace BK12 := Aside0.mk (blk_below (kM BK12.out) hb); replace BK13 := Aside0.mk (blk_below (kM BK13.out) hb); replace HB := Aside0.mk (below_step (by exact wM HB.out) hb); (try clear hb); obtain ⟨hcz26_0, hcz26_1, hcz26_2, hfz26_0, hfz26_1, hfz26_2⟩ := bk3 BK11.out; have hnb27 := NB12_13.out; have hnc27 := NB13_12.out; obtain ⟨hcz28_0, hcz28_1, hcz28_2, hcz28_3, hfz28_0, hfz28_1, hfz28_2, hfz28_3⟩ := bk4 BK12.out) | (go_at_call 78; (with_reducible refine (memo_node.calls _ _ l0_0 _ _ l0_1 _ _ l0_2 a1_0 a1_1 a1_2 a1_3 true _ ?side1 ?side2 ?side3 ?side4 ?side5 ?side6 A10.out).mono ?_); (case side1 => exact cM (Kd.C_below HR0_0.out HB.out)); (case side2 => exact HC0_0.out); (case side3 => exact cM (Kd.C_below HR0_1.out HB.out)); (case side4 => exact HC0_1.out); (case side5 => exact cM (Kd.C_below HR0_2.out HB.out)); (case side6 => exact HC0_2.out); rintro e w29 ⟨rfl, hb⟩; replace BK11 := Aside0.mk (blk_below (kM BK11.out) hb); replace BK12 := Aside0.mk (blk_below (kM BK12.out) hb); replace BK13 := Aside0.mk (blk_below (kM BK13.out) hb); replace HB := Aside0.mk (below_step (by exact wM HB.out) hb); (try clear hb); obtain ⟨hcz30_0, hcz30_1, hcz30_2, hfz30_0, hfz30_1, hfz30_2⟩ := bk3 BK11.out) | (go_at_call 74; (with_reducible refine (memo_is.calls _ _ l0_0 _ _ l0_1 _ _ l0_2 a2 t16 _ ?side1 ?side2 ?side3 ?side4 ?side5 ?side6 A21.out).mono ?_); (case side1 => exact cM (Kd.C_below HR0_0.out HB.out)); (case side2 => exact HC0_0.out); (case side3 => exact cM (Kd.C_below HR0_1.out HB.out)); (case side4 => exact HC0_1.out); (case side5 => exact cM (Kd.C_below HR0_2.out HB.out)); (case side6 => exact HC0_2.out); rintro e w31 ⟨rfl, hb⟩; replace BK11 := Aside0.mk (blk_below (kM BK11.out) hb); replace BK12 := Aside0.mk (blk_below (kM BK12.out) hb); replace BK13 := Aside0.mk (blk_below (kM BK13.out) hb); replace HB := Aside0.mk (below_step (by exact wM HB.out) hb); (try clear hb); ))
     go_meet
     case rel => exact ⟨_, (!t16), (by rfl), H', ⟨by omega⟩, ⟨kM BK11.out⟩, ⟨kM BK12.out⟩, ⟨kM BK13.out⟩, ⟨by repeat ((with_reducible first | exact HB.out ))⟩⟩
   ·replace c11 := Bool.eq_false_iff.mpr c11
    subst c11
    rw [if_neg (show ¬ (false = true) by decide)] at H
    have H' := Aside0.mk H
    clear H
    have hnb32 := NB11_12.out
    have hnc32 := NB12_11.out
    have hnb33 := NB11_13.out
    have hnc33 := NB13_11.out
    obtain ⟨hcz34_0, hcz34_1, hcz34_2, hfz34_0, hfz34_1, hfz34_2⟩ := bk3 BK11.out
    go_wp2_with (first | ((with_reducible refine gate_callee (f := 41) rfl ?_); refine goesL_ (some 13) rfl rfl Try.func41 (by kernel_rfl) rfl #[.agg #[.slice A0_0 l0_0.length c0_0, .slice A0_1 l0_1.length c0_1, .slice A0_2 l0_2.length c0_2]] rfl (by (try simp only [List.map_toArray, List.map_cons, List.map_nil]); first | rfl ) ?_; (with_reducible refine (memo_May.calls _ _ l0_0 _ _ l0_1 _ _ l0_2 true _ ?side1 ?side2 ?side3 ?side4 ?side5 ?side6 A8.out).mono ?_); (case side1 => exact cM (Kd.C_below HR0_0.out HB.out)); (case side2 => exact HC0_0.out); (case side3 => exact cM (Kd.C_below HR0_1.out HB.out)); (case side4 => exact HC0_1.out); (case side5 => exact cM (Kd.C_below HR0_2.out HB.out)); (case side6 => exact HC0_2.out); rintro e w35 ⟨rfl, hb⟩; refine ⟨_, rfl, ?_⟩; replace BK11 := Aside0.mk (blk_below (kM BK11.out) hb); replace BK12 := Aside0.mk (blk_below (kM BK12.out) hb); replace BK13 := Aside0.mk (blk_below (kM BK13.out) hb); replace HB := Aside0.mk (below_step (by exact wM HB.out) hb); (try clear hb); obtain ⟨hcz36_0, hcz36_1, hcz36_2, hfz36_0, hfz36_1, hfz36_2⟩ := bk3 BK11.out; have hnb37 := NB12_13.out; have hnc37 := NB13_12.out; obtain ⟨hcz38_0, hcz38_1, hcz38_2, hcz38_3, hfz38_0, hfz38_1, hfz38_2, hfz38_3⟩ := bk4 BK12.out) | (go_at_call 78; (with_reducible refine (memo_node.calls _ _ l0_0 _ _ l0_1 _ _ l0_2 a1_0 a1_1 a1_2 a1_3 false _ ?side1 ?side2 ?side3 ?side4 ?side5 ?side6 A10.out).mono ?_); (case side1 => exact cM (Kd.C_below HR0_0.out HB.out)); (case side2 => exact HC0_0.out); (case side3 => exact cM (Kd.C_below HR0_1.out HB.out)); (case side4 => exact HC0_1.out); (case side5 => exact cM (Kd.C_below HR0_2.out HB.out)); (case side6 => exact HC0_2.out); rintro e w39 ⟨rfl, hb⟩; replace BK11 := Aside0.mk (blk_below (kM BK11.out) hb); replace BK12 := Aside0.mk (blk_below (kM BK12.out) hb); replace BK13 := Aside0.mk (blk_below (kM BK13.out) hb); replace HB := Aside0.mk (below_step (by exact wM HB.out) hb); (try clear hb); ))
    go_meet
    case rel => exact ⟨_, (true), (by rfl), H', ⟨by omega⟩, ⟨kM BK11.out⟩, ⟨kM BK12.out⟩, ⟨kM BK13.out⟩, ⟨by repeat ((with_reducible first | exact HB.out ))⟩⟩
  ·replace c9 := Bool.eq_false_iff.mpr c9
   subst c9
   rw [if_neg (show ¬ (false = true) by decide)] at H
   have H' := Aside0.mk H
   clear H
   have hnb40 := NB11_12.out
   have hnc40 := NB12_11.out
   have hnb41 := NB11_13.out
   have hnc41 := NB13_11.out
   obtain ⟨hcz42_0, hcz42_1, hcz42_2, hfz42_0, hfz42_1, hfz42_2⟩ := bk3 BK11.out
   go_wp2_with (((with_reducible refine gate_callee (f := 41) rfl ?_); refine goesL_ (some 13) rfl rfl Try.func41 (by kernel_rfl) rfl #[.agg #[.slice A0_0 l0_0.length c0_0, .slice A0_1 l0_1.length c0_1, .slice A0_2 l0_2.length c0_2]] rfl (by (try simp only [List.map_toArray, List.map_cons, List.map_nil]); first | rfl ) ?_; (with_reducible refine (memo_May.calls _ _ l0_0 _ _ l0_1 _ _ l0_2 false _ ?side1 ?side2 ?side3 ?side4 ?side5 ?side6 A8.out).mono ?_); (case side1 => exact cM (Kd.C_below HR0_0.out HB.out)); (case side2 => exact HC0_0.out); (case side3 => exact cM (Kd.C_below HR0_1.out HB.out)); (case side4 => exact HC0_1.out); (case side5 => exact cM (Kd.C_below HR0_2.out HB.out)); (case side6 => exact HC0_2.out); rintro e w43 ⟨rfl, hb⟩; refine ⟨_, rfl, ?_⟩; replace BK11 := Aside0.mk (blk_below (kM BK11.out) hb); replace BK12 := Aside0.mk (blk_below (kM BK12.out) hb); replace BK13 := Aside0.mk (blk_below (kM BK13.out) hb); replace HB := Aside0.mk (below_step (by exact wM HB.out) hb); (try clear hb); ))
   go_meet
   case rel => exact ⟨_, (true), (by rfl), H', ⟨by omega⟩, ⟨kM BK11.out⟩, ⟨kM BK12.out⟩, ⟨kM BK13.out⟩, ⟨by repeat ((with_reducible first | exact HB.out ))⟩⟩
 case rest =>
  clear HC4
  obtain ⟨kq, x30_3, rfl, HA, HJ3, BK11, BK12, BK13, HB⟩ := hcut
  cases kq with
  | zero => exact absurd HA.out (by simp [memo_Put.j0])
  | succ kj3 =>
   have H := HA.out
   clear HA
   simp only [memo_Put.j0] at H
   by_cases c44 : x30_3 = true
   ·subst c44
    rw [if_pos rfl] at H
    replace H := Option.bind_eq_some_iff.mp H
    obtain ⟨⟨t17, t20, t23⟩, A450, H⟩ := H
    replace H : (some (t17, t20, t23, (-1), 1)) = some (r1, r2, r3, r4, r5) := H
    have A45 := Aside0.mk A450
    clear A450
    simp only [Option.some.injEq, Prod.mk.injEq] at H
    obtain ⟨rfl, rfl, rfl, rfl, rfl⟩ := H
    have hnb46 := NB11_12.out
    have hnc46 := NB12_11.out
    have hnb47 := NB11_13.out
    have hnc47 := NB13_11.out
    obtain ⟨hcz48_0, hcz48_1, hcz48_2, hfz48_0, hfz48_1, hfz48_2⟩ := bk3 BK11.out
    go_wp2_with (((with_reducible refine gate_callee (f := 75) rfl ?_); refine goesL_ (some 32) rfl rfl Try.func75 (by kernel_rfl) rfl #[.agg #[.slice A0_0 l0_0.length c0_0, .slice A0_1 l0_1.length c0_1, .slice A0_2 l0_2.length c0_2]] rfl (by (try simp only [List.map_toArray, List.map_cons, List.map_nil]); first | rfl ) ?_; (with_reducible refine (memo_own.calls kj3 _ _ l0_0 _ _ l0_1 _ _ l0_2 t17 t20 t23 _ ?side1 ?side2 ?side3 ?side4 ?side5 ?side6 A45.out).mono ?_); (case side1 => exact cM (Kd.C_below HR0_0.out HB.out)); (case side2 => exact HC0_0.out); (case side3 => exact cM (Kd.C_below HR0_1.out HB.out)); (case side4 => exact HC0_1.out); (case side5 => exact cM (Kd.C_below HR0_2.out HB.out)); (case side6 => exact HC0_2.out); rintro e w49 ⟨v18, v21, v24, rfl, ho0, ho1, ho2, hb⟩; refine ⟨_, rfl, ?_⟩; have HO19 := Aside0.mk (Kd.R_lower (Kd.R_newB ho0 (kM BK12.out)) (below_size (by exact wM HB.out))); have HO22 := Aside0.mk (Kd.R_lower ho1 (below_size (by exact wM HB.out))); have HO25 := Aside0.mk (Kd.R_lower ho2 (below_size (by exact wM HB.out))); replace BK11 := Aside0.mk (blk_below (kM BK11.out) hb); replace BK12 := Aside0.mk (blk_below (kM BK12.out) hb); replace BK13 := Aside0.mk (blk_below (kM BK13.out) hb); replace HB := Aside0.mk (below_step (by exact wM HB.out) hb); (try clear hb); (try clear ho0); (try clear ho1); (try clear ho2); obtain ⟨Ao50, co50, eo50⟩ := Kd.R_slice HO19.out; subst eo50; have hnb51 := NB13_12.out; have hnc51 := NB12_13.out; obtain ⟨hcz52_0, hcz52_1, hcz52_2, hfz52_0, hfz52_1, hfz52_2⟩ := bk3 BK13.out; obtain ⟨Ao53, co53, eo53⟩ := Kd.R_slice HO22.out; subst eo53; obtain ⟨Ao54, co54, eo54⟩ := Kd.R_slice HO25.out; subst eo54))
    refine bodyPost_ret (results_ctt rfl _ _ gb13 38 #[.slice Ao50 t17.length co50, .slice Ao53 t20.length co53, .slice Ao54 t23.length co54] (0, 0) _ rfl (by (with_reducible repeat (first | refine blk_drewN ?_ _ | refine blk_drew ?_ | refine blk_alloc ?_ _)); exact kP1 BK13.out) Try.underlying38 rfl (by kernel_rfl)) rfl ?_
    exact ⟨_, _, _, by rfl, by (with_reducible repeat (first | apply Kd.R_alloc | apply Kd.R_drewN | apply Kd.R_drew)); exact Kd.R_mono (Kd.R_far (p := ⟨gb13, 2, none⟩) (Kd.R_far (p := ⟨gb13, 1, none⟩) (Kd.R_far (p := ⟨gb13, 0, none⟩) (Kd.R_types HO19.out BK13.out (by decide)) (fun _ hk => hk.2) (.slice Ao50 t17.length co50)) (fun _ hk => hk.2) (.slice Ao53 t20.length co53)) (fun _ hk => hk.2) (.slice Ao54 t23.length co54)) (fun _ hk => trivial), by (with_reducible repeat (first | apply Kd.R_alloc | apply Kd.R_drewN | apply Kd.R_drew)); exact Kd.R_mono (Kd.R_far (p := ⟨gb13, 2, none⟩) (Kd.R_far (p := ⟨gb13, 1, none⟩) (Kd.R_far (p := ⟨gb13, 0, none⟩) (Kd.R_types HO22.out BK13.out (by decide)) (fun _ hk => hk.2) (.slice Ao50 t17.length co50)) (fun _ hk => hk.2) (.slice Ao53 t20.length co53)) (fun _ hk => hk.2) (.slice Ao54 t23.length co54)) (fun _ hk => hk.1), by (with_reducible repeat (first | apply Kd.R_alloc | apply Kd.R_drewN | apply Kd.R_drew)); exact Kd.R_mono (Kd.R_far (p := ⟨gb13, 2, none⟩) (Kd.R_far (p := ⟨gb13, 1, none⟩) (Kd.R_far (p := ⟨gb13, 0, none⟩) (Kd.R_types HO25.out BK13.out (by decide)) (fun _ hk => hk.2) (.slice Ao50 t17.length co50)) (fun _ hk => hk.2) (.slice Ao53 t20.length co53)) (fun _ hk => hk.2) (.slice Ao54 t23.length co54)) (fun _ hk => hk.1), by repeat ((with_reducible first | exact HB.out | refine below_set ?_ GE13.out))⟩
   ·replace c44 := Bool.eq_false_iff.mpr c44
    subst c44
    rw [if_neg (show ¬ (false = true) by decide)] at H
    replace H := Option.bind_eq_some_iff.mp H
    obtain ⟨⟨t26, t27⟩, A550, H⟩ := H
    replace H : (if t27 = true then (if a2 = (-1) then (memo_Put.j1 kj3 a2 t26 t27 true l0_0 l0_1 l0_2 a1_0 a1_1 a1_2 a1_3) else ((memo_Find.f kj3 l0_0 l0_1 l0_2 a2).bind fun t28 => (memo_Put.j1 kj3 a2 t26 t27 (t28 == t26) l0_0 l0_1 l0_2 a1_0 a1_1 a1_2 a1_3))) else (memo_Put.j1 kj3 a2 t26 t27 false l0_0 l0_1 l0_2 a1_0 a1_1 a1_2 a1_3)) = some (r1, r2, r3, r4, r5) := H
    have A55 := Aside0.mk A550
    clear A550
    have HC56 := Aside0.mk H
    clear H
    have hnb57 := NB11_12.out
    have hnc57 := NB12_11.out
    have hnb58 := NB11_13.out
    have hnc58 := NB13_11.out
    obtain ⟨hcz59_0, hcz59_1, hcz59_2, hfz59_0, hfz59_1, hfz59_2⟩ := bk3 BK11.out
    have hnb60 := NB12_13.out
    have hnc60 := NB13_12.out
    obtain ⟨hcz61_0, hcz61_1, hcz61_2, hcz61_3, hfz61_0, hfz61_1, hfz61_2, hfz61_3⟩ := bk4 BK12.out
    go_upto_block 0 with (((with_reducible refine gate_callee (f := 45) rfl ?_); refine goesL_ (some 36) rfl rfl Try.func45 (by kernel_rfl) rfl #[.agg #[.slice A0_0 l0_0.length c0_0, .slice A0_1 l0_1.length c0_1, .slice A0_2 l0_2.length c0_2], .agg #[.bool a1_0, .int .i64 a1_1, .int .i64 a1_2, .int .i64 a1_3]] rfl (by (try simp only [List.map_toArray, List.map_cons, List.map_nil]); first | rfl ) ?_; (with_reducible refine (memo_Look.calls _ _ l0_0 _ _ l0_1 _ _ l0_2 a1_0 a1_1 a1_2 a1_3 t26 t27 _ ?side1 ?side2 ?side3 ?side4 ?side5 ?side6 A55.out).mono ?_); (case side1 => exact cM (Kd.C_below HR0_0.out HB.out)); (case side2 => exact HC0_0.out); (case side3 => exact cM (Kd.C_below HR0_1.out HB.out)); (case side4 => exact HC0_1.out); (case side5 => exact cM (Kd.C_below HR0_2.out HB.out)); (case side6 => exact HC0_2.out); rintro e w62 ⟨rfl, hb⟩; refine ⟨_, rfl, ?_⟩; replace BK11 := Aside0.mk (blk_below (kM BK11.out) hb); replace BK12 := Aside0.mk (blk_below (kM BK12.out) hb); replace BK13 := Aside0.mk (blk_below (kM BK13.out) hb); replace HB := Aside0.mk (below_step (by exact wM HB.out) hb); (try clear hb); ))
    (try simp only [Act.put, List.setIfInBounds_toArray, List.set_cons_zero, List.set_cons_succ])
    go_cut [] (fun wc => ∃ (kq : Nat), Aside0 (memo_Put.j2 kq a2 l0_0 l0_1 l0_2 a1_0 a1_1 a1_2 a1_3 = some (r1, r2, r3, r4, r5)) ∧ Aside0 (kq ≤ kj3) ∧ Aside0 (wc.heap[gb11]? = some (.cells #[(.slice A0_0 l0_0.length c0_0), (.slice A0_1 l0_1.length c0_1), (.slice A0_2 l0_2.length c0_2)] 38 (0, 0))) ∧ Aside0 (wc.heap[gb12]? = some (.cells #[.bool a1_0, .int .i64 a1_1, .int .i64 a1_2, .int .i64 a1_3] 48 (0, 0))) ∧ Aside0 (wc.heap[gb13]? = some (.cells #[(.slice none 0 0), (.slice none 0 0), (.slice none 0 0)] 38 (0, 0))) ∧ Aside0 (Below w.heap.size w wc))
    case first =>
     have H := HC56.out
     clear HC56
     have HC63 := Aside0.mk H
     clear H
     go_upto_region 4 with (fail)
     go_cut [39] (fun v39 wc => ∃ (kq : Nat) (x39_62 : Bool), v39 = .bool x39_62 ∧ Aside0 (memo_Put.j1 kq a2 t26 t27 x39_62 l0_0 l0_1 l0_2 a1_0 a1_1 a1_2 a1_3 = some (r1, r2, r3, r4, r5)) ∧ Aside0 (kq ≤ kj3) ∧ Aside0 (wc.heap[gb11]? = some (.cells #[(.slice A0_0 l0_0.length c0_0), (.slice A0_1 l0_1.length c0_1), (.slice A0_2 l0_2.length c0_2)] 38 (0, 0))) ∧ Aside0 (wc.heap[gb12]? = some (.cells #[.bool a1_0, .int .i64 a1_1, .int .i64 a1_2, .int .i64 a1_3] 48 (0, 0))) ∧ Aside0 (wc.heap[gb13]? = some (.cells #[(.slice none 0 0), (.slice none 0 0), (.slice none 0 0)] 38 (0, 0))) ∧ Aside0 (Below w.heap.size w wc))
     case first =>
      have H := HC63.out
      clear HC63
      by_cases c64 : t27 = true
      ·subst c64
       rw [if_pos rfl] at H
       by_cases c65 : a2 = (-1)
       ·rw [if_pos c65] at H
        have c65b0 : (a2 == (-1)) = true := beq_iff_eq.mpr c65
        have c65b1 : (a2 != (-1)) = false := bne_eq_false_iff_eq.mpr c65
        clear c65
        (skip)
        have H' := Aside0.mk H
        clear H
        go_wp2
        go_meet
        case rel => exact ⟨_, (true), (by rfl), H', ⟨by have := HJ3.out; first | omega ⟩, ⟨kM BK11.out⟩, ⟨kM BK12.out⟩, ⟨kM BK13.out⟩, ⟨by repeat ((with_reducible first | exact HB.out ))⟩⟩
       ·rw [if_neg c65] at H
        have c65b0 : (a2 == (-1)) = false := beq_eq_false_iff_ne.mpr c65
        have c65b1 : (a2 != (-1)) = true := bne_iff_ne.mpr c65
        (skip)
        replace H := Option.bind_eq_some_iff.mp H
        obtain ⟨t28, A660, H⟩ := H
        have A66 := Aside0.mk A660
        clear A660
        have H' := Aside0.mk H
        clear H
        have hnb67 := NB11_12.out
        have hnc67 := NB12_11.out
        have hnb68 := NB11_13.out
        have hnc68 := NB13_11.out
        obtain ⟨hcz69_0, hcz69_1, hcz69_2, hfz69_0, hfz69_1, hfz69_2⟩ := bk3 BK11.out
        go_wp2_with ((go_at_call 42; (with_reducible refine (memo_Find.calls kj3 _ _ l0_0 _ _ l0_1 _ _ l0_2 a2 t28 _ ?side1 ?side2 ?side3 ?side4 ?side5 ?side6 A66.out).mono ?_); (case side1 => exact cM (Kd.C_below HR0_0.out HB.out)); (case side2 => exact HC0_0.out); (case side3 => exact cM (Kd.C_below HR0_1.out HB.out)); (case side4 => exact HC0_1.out); (case side5 => exact cM (Kd.C_below HR0_2.out HB.out)); (case side6 => exact HC0_2.out); rintro e w70 ⟨rfl, hb⟩; replace BK11 := Aside0.mk (blk_below (kM BK11.out) hb); replace BK12 := Aside0.mk (blk_below (kM BK12.out) hb); replace BK13 := Aside0.mk (blk_below (kM BK13.out) hb); replace HB := Aside0.mk (below_step (by exact wM HB.out) hb); (try clear hb); ))
        go_meet
        case rel => exact ⟨_, ((t28 == t26)), (by rfl), H', ⟨by have := HJ3.out; first | omega ⟩, ⟨kM BK11.out⟩, ⟨kM BK12.out⟩, ⟨kM BK13.out⟩, ⟨by repeat ((with_reducible first | exact HB.out ))⟩⟩
      ·replace c64 := Bool.eq_false_iff.mpr c64
       subst c64
       rw [if_neg (show ¬ (false = true) by decide)] at H
       have H' := Aside0.mk H
       clear H
       go_wp2
       go_meet
       case rel => exact ⟨_, (false), (by rfl), H', ⟨by have := HJ3.out; first | omega ⟩, ⟨kM BK11.out⟩, ⟨kM BK12.out⟩, ⟨kM BK13.out⟩, ⟨by repeat ((with_reducible first | exact HB.out ))⟩⟩
     case rest =>
      clear HC63
      try clear hcz59_0
      try clear hcz59_1
      try clear hcz59_2
      try clear hcz61_0
      try clear hcz61_1
      try clear hcz61_2
      try clear hcz61_3
      try clear hfz59_0
      try clear hfz59_1
      try clear hfz59_2
      try clear hfz61_0
      try clear hfz61_1
      try clear hfz61_2
      try clear hfz61_3
      obtain ⟨kq, x39_62, rfl, HA, HJ62, BK11, BK12, BK13, HB⟩ := hcut
      cases kq with
      | zero => exact absurd HA.out (by simp [memo_Put.j1])
      | succ kj62 =>
       have H := HA.out
       clear HA
       simp only [memo_Put.j1] at H
       by_cases c71 : x39_62 = true
       ·subst c71
        rw [if_pos rfl] at H
        replace H := Option.bind_eq_some_iff.mp H
        obtain ⟨⟨t29, t32, t35⟩, A720, H⟩ := H
        replace H : (some (t29, t32, t35, t26, 0)) = some (r1, r2, r3, r4, r5) := H
        have A72 := Aside0.mk A720
        clear A720
        simp only [Option.some.injEq, Prod.mk.injEq] at H
        obtain ⟨rfl, rfl, rfl, rfl, rfl⟩ := H
        have hnb73 := NB11_12.out
        have hnc73 := NB12_11.out
        have hnb74 := NB11_13.out
        have hnc74 := NB13_11.out
        obtain ⟨hcz75_0, hcz75_1, hcz75_2, hfz75_0, hfz75_1, hfz75_2⟩ := bk3 BK11.out
        go_wp2_with (((with_reducible refine gate_callee (f := 75) rfl ?_); refine goesL_ (some 53) rfl rfl Try.func75 (by kernel_rfl) rfl #[.agg #[.slice A0_0 l0_0.length c0_0, .slice A0_1 l0_1.length c0_1, .slice A0_2 l0_2.length c0_2]] rfl (by (try simp only [List.map_toArray, List.map_cons, List.map_nil]); first | rfl ) ?_; (with_reducible refine (memo_own.calls kj62 _ _ l0_0 _ _ l0_1 _ _ l0_2 t29 t32 t35 _ ?side1 ?side2 ?side3 ?side4 ?side5 ?side6 A72.out).mono ?_); (case side1 => exact cM (Kd.C_below HR0_0.out HB.out)); (case side2 => exact HC0_0.out); (case side3 => exact cM (Kd.C_below HR0_1.out HB.out)); (case side4 => exact HC0_1.out); (case side5 => exact cM (Kd.C_below HR0_2.out HB.out)); (case side6 => exact HC0_2.out); rintro e w76 ⟨v30, v33, v36, rfl, ho0, ho1, ho2, hb⟩; refine ⟨_, rfl, ?_⟩; have HO31 := Aside0.mk (Kd.R_lower (Kd.R_newB ho0 (kM BK12.out)) (below_size (by exact wM HB.out))); have HO34 := Aside0.mk (Kd.R_lower ho1 (below_size (by exact wM HB.out))); have HO37 := Aside0.mk (Kd.R_lower ho2 (below_size (by exact wM HB.out))); replace BK11 := Aside0.mk (blk_below (kM BK11.out) hb); replace BK12 := Aside0.mk (blk_below (kM BK12.out) hb); replace BK13 := Aside0.mk (blk_below (kM BK13.out) hb); replace HB := Aside0.mk (below_step (by exact wM HB.out) hb); (try clear hb); (try clear ho0); (try clear ho1); (try clear ho2); obtain ⟨Ao77, co77, eo77⟩ := Kd.R_slice HO31.out; subst eo77; have hnb78 := NB13_12.out; have hnc78 := NB12_13.out; obtain ⟨hcz79_0, hcz79_1, hcz79_2, hfz79_0, hfz79_1, hfz79_2⟩ := bk3 BK13.out; obtain ⟨Ao80, co80, eo80⟩ := Kd.R_slice HO34.out; subst eo80; obtain ⟨Ao81, co81, eo81⟩ := Kd.R_slice HO37.out; subst eo81))
        refine bodyPost_ret (results_ctt rfl _ _ gb13 38 #[.slice Ao77 t29.length co77, .slice Ao80 t32.length co80, .slice Ao81 t35.length co81] (0, 0) _ rfl (by (with_reducible repeat (first | refine blk_drewN ?_ _ | refine blk_drew ?_ | refine blk_alloc ?_ _)); exact kP1 BK13.out) Try.underlying38 rfl (by kernel_rfl)) rfl ?_
        exact ⟨_, _, _, by rfl, by (with_reducible repeat (first | apply Kd.R_alloc | apply Kd.R_drewN | apply Kd.R_drew)); exact Kd.R_mono (Kd.R_far (p := ⟨gb13, 2, none⟩) (Kd.R_far (p := ⟨gb13, 1, none⟩) (Kd.R_far (p := ⟨gb13, 0, none⟩) (Kd.R_types HO31.out BK13.out (by decide)) (fun _ hk => hk.2) (.slice Ao77 t29.length co77)) (fun _ hk => hk.2) (.slice Ao80 t32.length co80)) (fun _ hk => hk.2) (.slice Ao81 t35.length co81)) (fun _ hk => trivial), by (with_reducible repeat (first | apply Kd.R_alloc | apply Kd.R_drewN | apply Kd.R_drew)); exact Kd.R_mono (Kd.R_far (p := ⟨gb13, 2, none⟩) (Kd.R_far (p := ⟨gb13, 1, none⟩) (Kd.R_far (p := ⟨gb13, 0, none⟩) (Kd.R_types HO34.out BK13.out (by decide)) (fun _ hk => hk.2) (.slice Ao77 t29.length co77)) (fun _ hk => hk.2) (.slice Ao80 t32.length co80)) (fun _ hk => hk.2) (.slice Ao81 t35.length co81)) (fun _ hk => hk.1), by (with_reducible repeat (first | apply Kd.R_alloc | apply Kd.R_drewN | apply Kd.R_drew)); exact Kd.R_mono (Kd.R_far (p := ⟨gb13, 2, none⟩) (Kd.R_far (p := ⟨gb13, 1, none⟩) (Kd.R_far (p := ⟨gb13, 0, none⟩) (Kd.R_types HO37.out BK13.out (by decide)) (fun _ hk => hk.2) (.slice Ao77 t29.length co77)) (fun _ hk => hk.2) (.slice Ao80 t32.length co80)) (fun _ hk => hk.2) (.slice Ao81 t35.length co81)) (fun _ hk => hk.1), by repeat ((with_reducible first | exact HB.out | refine below_set ?_ GE13.out))⟩
       ·replace c71 := Bool.eq_false_iff.mpr c71
        subst c71
        rw [if_neg (show ¬ (false = true) by decide)] at H
        by_cases c82 : t27 = true
        ·subst c82
         rw [if_pos rfl] at H
         replace H := Option.bind_eq_some_iff.mp H
         obtain ⟨⟨t38, t41, t44, t47, t48⟩, A830, H⟩ := H
         replace H : (some (t38, t41, t44, t47, t48)) = some (r1, r2, r3, r4, r5) := H
         have A83 := Aside0.mk A830
         clear A830
         simp only [Option.some.injEq, Prod.mk.injEq] at H
         obtain ⟨rfl, rfl, rfl, rfl, rfl⟩ := H
         have hnb84 := NB11_12.out
         have hnc84 := NB12_11.out
         have hnb85 := NB11_13.out
         have hnc85 := NB13_11.out
         obtain ⟨hcz86_0, hcz86_1, hcz86_2, hfz86_0, hfz86_1, hfz86_2⟩ := bk3 BK11.out
         go_wp2_with (((with_reducible refine gate_callee (f := 40) rfl ?_); refine goesL_ (some 60) rfl rfl Try.func40 (by kernel_rfl) rfl #[.agg #[.slice A0_0 l0_0.length c0_0, .slice A0_1 l0_1.length c0_1, .slice A0_2 l0_2.length c0_2], .int .i64 a2, .int .i64 t26] rfl (by (try simp only [List.map_toArray, List.map_cons, List.map_nil]); first | rfl ) ?_; (with_reducible refine (memo_Merge.calls kj62 _ _ l0_0 _ _ l0_1 _ _ l0_2 a2 t26 t38 t41 t44 t47 t48 _ ?side1 ?side2 ?side3 ?side4 ?side5 ?side6 A83.out).mono ?_); (case side1 => exact cM (Kd.C_below HR0_0.out HB.out)); (case side2 => exact HC0_0.out); (case side3 => exact cM (Kd.C_below HR0_1.out HB.out)); (case side4 => exact HC0_1.out); (case side5 => exact cM (Kd.C_below HR0_2.out HB.out)); (case side6 => exact HC0_2.out); rintro e w87 ⟨v39, v42, v45, rfl, ho0, ho1, ho2, hb⟩; refine ⟨_, rfl, ?_⟩; have HO40 := Aside0.mk (Kd.R_lower (Kd.R_newB ho0 (kM BK12.out)) (below_size (by exact wM HB.out))); have HO43 := Aside0.mk (Kd.R_lower ho1 (below_size (by exact wM HB.out))); have HO46 := Aside0.mk (Kd.R_lower ho2 (below_size (by exact wM HB.out))); replace BK11 := Aside0.mk (blk_below (kM BK11.out) hb); replace BK12 := Aside0.mk (blk_below (kM BK12.out) hb); replace BK13 := Aside0.mk (blk_below (kM BK13.out) hb); replace HB := Aside0.mk (below_step (by exact wM HB.out) hb); (try clear hb); (try clear ho0); (try clear ho1); (try clear ho2); obtain ⟨Ao88, co88, eo88⟩ := Kd.R_slice HO40.out; subst eo88; have hnb89 := NB13_12.out; have hnc89 := NB12_13.out; obtain ⟨hcz90_0, hcz90_1, hcz90_2, hfz90_0, hfz90_1, hfz90_2⟩ := bk3 BK13.out; obtain ⟨Ao91, co91, eo91⟩ := Kd.R_slice HO43.out; subst eo91; obtain ⟨Ao92, co92, eo92⟩ := Kd.R_slice HO46.out; subst eo92))
         refine bodyPost_ret (results_ctt rfl _ _ gb13 38 #[.slice Ao88 t38.length co88, .slice Ao91 t41.length co91, .slice Ao92 t44.length co92] (0, 0) _ rfl (by (with_reducible repeat (first | refine blk_drewN ?_ _ | refine blk_drew ?_ | refine blk_alloc ?_ _)); exact kP1 BK13.out) Try.underlying38 rfl (by kernel_rfl)) rfl ?_
         exact ⟨_, _, _, by rfl, by (with_reducible repeat (first | apply Kd.R_alloc | apply Kd.R_drewN | apply Kd.R_drew)); exact Kd.R_mono (Kd.R_far (p := ⟨gb13, 2, none⟩) (Kd.R_far (p := ⟨gb13, 1, none⟩) (Kd.R_far (p := ⟨gb13, 0, none⟩) (Kd.R_types HO40.out BK13.out (by decide)) (fun _ hk => hk.2) (.slice Ao88 t38.length co88)) (fun _ hk => hk.2) (.slice Ao91 t41.length co91)) (fun _ hk => hk.2) (.slice Ao92 t44.length co92)) (fun _ hk => trivial), by (with_reducible repeat (first | apply Kd.R_alloc | apply Kd.R_drewN | apply Kd.R_drew)); exact Kd.R_mono (Kd.R_far (p := ⟨gb13, 2, none⟩) (Kd.R_far (p := ⟨gb13, 1, none⟩) (Kd.R_far (p := ⟨gb13, 0, none⟩) (Kd.R_types HO43.out BK13.out (by decide)) (fun _ hk => hk.2) (.slice Ao88 t38.length co88)) (fun _ hk => hk.2) (.slice Ao91 t41.length co91)) (fun _ hk => hk.2) (.slice Ao92 t44.length co92)) (fun _ hk => hk.1), by (with_reducible repeat (first | apply Kd.R_alloc | apply Kd.R_drewN | apply Kd.R_drew)); exact Kd.R_mono (Kd.R_far (p := ⟨gb13, 2, none⟩) (Kd.R_far (p := ⟨gb13, 1, none⟩) (Kd.R_far (p := ⟨gb13, 0, none⟩) (Kd.R_types HO46.out BK13.out (by decide)) (fun _ hk => hk.2) (.slice Ao88 t38.length co88)) (fun _ hk => hk.2) (.slice Ao91 t41.length co91)) (fun _ hk => hk.2) (.slice Ao92 t44.length co92)) (fun _ hk => hk.1), by repeat ((with_reducible first | exact HB.out | refine below_set ?_ GE13.out))⟩
        ·replace c82 := Bool.eq_false_iff.mpr c82
         subst c82
         rw [if_neg (show ¬ (false = true) by decide)] at H
         by_cases c93 : (l0_0.length : Int) = 400
         ·rw [if_pos c93] at H
          have c93b0 : ((l0_0.length : Int) == 400) = true := beq_iff_eq.mpr c93
          have c93b1 : ((l0_0.length : Int) != 400) = false := bne_eq_false_iff_eq.mpr c93
          clear c93
          replace H := Option.bind_eq_some_iff.mp H
          obtain ⟨⟨t49, t52, t55⟩, A940, H⟩ := H
          replace H : (some (t49, t52, t55, (-1), 3)) = some (r1, r2, r3, r4, r5) := H
          have A94 := Aside0.mk A940
          clear A940
          simp only [Option.some.injEq, Prod.mk.injEq] at H
          obtain ⟨rfl, rfl, rfl, rfl, rfl⟩ := H
          have hnb95 := NB11_12.out
          have hnc95 := NB12_11.out
          have hnb96 := NB11_13.out
          have hnc96 := NB13_11.out
          obtain ⟨hcz97_0, hcz97_1, hcz97_2, hfz97_0, hfz97_1, hfz97_2⟩ := bk3 BK11.out
          go_wp2_with (((with_reducible refine gate_callee (f := 75) rfl ?_); refine goesL_ (some 78) rfl rfl Try.func75 (by kernel_rfl) rfl #[.agg #[.slice A0_0 l0_0.length c0_0, .slice A0_1 l0_1.length c0_1, .slice A0_2 l0_2.length c0_2]] rfl (by (try simp only [List.map_toArray, List.map_cons, List.map_nil]); first | rfl ) ?_; (with_reducible refine (memo_own.calls kj62 _ _ l0_0 _ _ l0_1 _ _ l0_2 t49 t52 t55 _ ?side1 ?side2 ?side3 ?side4 ?side5 ?side6 A94.out).mono ?_); (case side1 => exact cM (Kd.C_below HR0_0.out HB.out)); (case side2 => exact HC0_0.out); (case side3 => exact cM (Kd.C_below HR0_1.out HB.out)); (case side4 => exact HC0_1.out); (case side5 => exact cM (Kd.C_below HR0_2.out HB.out)); (case side6 => exact HC0_2.out); rintro e w98 ⟨v50, v53, v56, rfl, ho0, ho1, ho2, hb⟩; refine ⟨_, rfl, ?_⟩; have HO51 := Aside0.mk (Kd.R_lower (Kd.R_newB ho0 (kM BK12.out)) (below_size (by exact wM HB.out))); have HO54 := Aside0.mk (Kd.R_lower ho1 (below_size (by exact wM HB.out))); have HO57 := Aside0.mk (Kd.R_lower ho2 (below_size (by exact wM HB.out))); replace BK11 := Aside0.mk (blk_below (kM BK11.out) hb); replace BK12 := Aside0.mk (blk_below (kM BK12.out) hb); replace BK13 := Aside0.mk (blk_below (kM BK13.out) hb); replace HB := Aside0.mk (below_step (by exact wM HB.out) hb); (try clear hb); (try clear ho0); (try clear ho1); (try clear ho2); obtain ⟨Ao99, co99, eo99⟩ := Kd.R_slice HO51.out; subst eo99; have hnb100 := NB13_12.out; have hnc100 := NB12_13.out; obtain ⟨hcz101_0, hcz101_1, hcz101_2, hfz101_0, hfz101_1, hfz101_2⟩ := bk3 BK13.out; obtain ⟨Ao102, co102, eo102⟩ := Kd.R_slice HO54.out; subst eo102; obtain ⟨Ao103, co103, eo103⟩ := Kd.R_slice HO57.out; subst eo103))
          refine bodyPost_ret (results_ctt rfl _ _ gb13 38 #[.slice Ao99 t49.length co99, .slice Ao102 t52.length co102, .slice Ao103 t55.length co103] (0, 0) _ rfl (by (with_reducible repeat (first | refine blk_drewN ?_ _ | refine blk_drew ?_ | refine blk_alloc ?_ _)); exact kP1 BK13.out) Try.underlying38 rfl (by kernel_rfl)) rfl ?_
          exact ⟨_, _, _, by rfl, by (with_reducible repeat (first | apply Kd.R_alloc | apply Kd.R_drewN | apply Kd.R_drew)); exact Kd.R_mono (Kd.R_far (p := ⟨gb13, 2, none⟩) (Kd.R_far (p := ⟨gb13, 1, none⟩) (Kd.R_far (p := ⟨gb13, 0, none⟩) (Kd.R_types HO51.out BK13.out (by decide)) (fun _ hk => hk.2) (.slice Ao99 t49.length co99)) (fun _ hk => hk.2) (.slice Ao102 t52.length co102)) (fun _ hk => hk.2) (.slice Ao103 t55.length co103)) (fun _ hk => trivial), by (with_reducible repeat (first | apply Kd.R_alloc | apply Kd.R_drewN | apply Kd.R_drew)); exact Kd.R_mono (Kd.R_far (p := ⟨gb13, 2, none⟩) (Kd.R_far (p := ⟨gb13, 1, none⟩) (Kd.R_far (p := ⟨gb13, 0, none⟩) (Kd.R_types HO54.out BK13.out (by decide)) (fun _ hk => hk.2) (.slice Ao99 t49.length co99)) (fun _ hk => hk.2) (.slice Ao102 t52.length co102)) (fun _ hk => hk.2) (.slice Ao103 t55.length co103)) (fun _ hk => hk.1), by (with_reducible repeat (first | apply Kd.R_alloc | apply Kd.R_drewN | apply Kd.R_drew)); exact Kd.R_mono (Kd.R_far (p := ⟨gb13, 2, none⟩) (Kd.R_far (p := ⟨gb13, 1, none⟩) (Kd.R_far (p := ⟨gb13, 0, none⟩) (Kd.R_types HO57.out BK13.out (by decide)) (fun _ hk => hk.2) (.slice Ao99 t49.length co99)) (fun _ hk => hk.2) (.slice Ao102 t52.length co102)) (fun _ hk => hk.2) (.slice Ao103 t55.length co103)) (fun _ hk => hk.1), by repeat ((with_reducible first | exact HB.out | refine below_set ?_ GE13.out))⟩
         ·rw [if_neg c93] at H
          have c93b0 : ((l0_0.length : Int) == 400) = false := beq_eq_false_iff_ne.mpr c93
          have c93b1 : ((l0_0.length : Int) != 400) = true := bne_iff_ne.mpr c93
          by_cases c104 : a2 = (-1)
          ·rw [if_pos c104] at H
           have c104b0 : (a2 == (-1)) = true := beq_iff_eq.mpr c104
           have c104b1 : (a2 != (-1)) = false := bne_eq_false_iff_eq.mpr c104
           clear c104
           by_cases c105 : (l0_2.length : Int) = 400
           ·rw [if_pos c105] at H
            have c105b0 : ((l0_2.length : Int) == 400) = true := beq_iff_eq.mpr c105
            have c105b1 : ((l0_2.length : Int) != 400) = false := bne_eq_false_iff_eq.mpr c105
            clear c105
            replace H := Option.bind_eq_some_iff.mp H
            obtain ⟨⟨t58, t61, t64⟩, A1060, H⟩ := H
            replace H : (some (t58, t61, t64, (-1), 3)) = some (r1, r2, r3, r4, r5) := H
            have A106 := Aside0.mk A1060
            clear A1060
            simp only [Option.some.injEq, Prod.mk.injEq] at H
            obtain ⟨rfl, rfl, rfl, rfl, rfl⟩ := H
            have hnb107 := NB11_12.out
            have hnc107 := NB12_11.out
            have hnb108 := NB11_13.out
            have hnc108 := NB13_11.out
            obtain ⟨hcz109_0, hcz109_1, hcz109_2, hfz109_0, hfz109_1, hfz109_2⟩ := bk3 BK11.out
            go_wp2_with (((with_reducible refine gate_callee (f := 75) rfl ?_); refine goesL_ (some 78) rfl rfl Try.func75 (by kernel_rfl) rfl #[.agg #[.slice A0_0 l0_0.length c0_0, .slice A0_1 l0_1.length c0_1, .slice A0_2 l0_2.length c0_2]] rfl (by (try simp only [List.map_toArray, List.map_cons, List.map_nil]); first | rfl ) ?_; (with_reducible refine (memo_own.calls kj62 _ _ l0_0 _ _ l0_1 _ _ l0_2 t58 t61 t64 _ ?side1 ?side2 ?side3 ?side4 ?side5 ?side6 A106.out).mono ?_); (case side1 => exact cM (Kd.C_below HR0_0.out HB.out)); (case side2 => exact HC0_0.out); (case side3 => exact cM (Kd.C_below HR0_1.out HB.out)); (case side4 => exact HC0_1.out); (case side5 => exact cM (Kd.C_below HR0_2.out HB.out)); (case side6 => exact HC0_2.out); rintro e w110 ⟨v59, v62, v65, rfl, ho0, ho1, ho2, hb⟩; refine ⟨_, rfl, ?_⟩; have HO60 := Aside0.mk (Kd.R_lower (Kd.R_newB ho0 (kM BK12.out)) (below_size (by exact wM HB.out))); have HO63 := Aside0.mk (Kd.R_lower ho1 (below_size (by exact wM HB.out))); have HO66 := Aside0.mk (Kd.R_lower ho2 (below_size (by exact wM HB.out))); replace BK11 := Aside0.mk (blk_below (kM BK11.out) hb); replace BK12 := Aside0.mk (blk_below (kM BK12.out) hb); replace BK13 := Aside0.mk (blk_below (kM BK13.out) hb); replace HB := Aside0.mk (below_step (by exact wM HB.out) hb); (try clear hb); (try clear ho0); (try clear ho1); (try clear ho2); obtain ⟨Ao111, co111, eo111⟩ := Kd.R_slice HO60.out; subst eo111; have hnb112 := NB13_12.out; have hnc112 := NB12_13.out; obtain ⟨hcz113_0, hcz113_1, hcz113_2, hfz113_0, hfz113_1, hfz113_2⟩ := bk3 BK13.out; obtain ⟨Ao114, co114, eo114⟩ := Kd.R_slice HO63.out; subst eo114; obtain ⟨Ao115, co115, eo115⟩ := Kd.R_slice HO66.out; subst eo115))
            refine bodyPost_ret (results_ctt rfl _ _ gb13 38 #[.slice Ao111 t58.length co111, .slice Ao114 t61.length co114, .slice Ao115 t64.length co115] (0, 0) _ rfl (by (with_reducible repeat (first | refine blk_drewN ?_ _ | refine blk_drew ?_ | refine blk_alloc ?_ _)); exact kP1 BK13.out) Try.underlying38 rfl (by kernel_rfl)) rfl ?_
            exact ⟨_, _, _, by rfl, by (with_reducible repeat (first | apply Kd.R_alloc | apply Kd.R_drewN | apply Kd.R_drew)); exact Kd.R_mono (Kd.R_far (p := ⟨gb13, 2, none⟩) (Kd.R_far (p := ⟨gb13, 1, none⟩) (Kd.R_far (p := ⟨gb13, 0, none⟩) (Kd.R_types HO60.out BK13.out (by decide)) (fun _ hk => hk.2) (.slice Ao111 t58.length co111)) (fun _ hk => hk.2) (.slice Ao114 t61.length co114)) (fun _ hk => hk.2) (.slice Ao115 t64.length co115)) (fun _ hk => trivial), by (with_reducible repeat (first | apply Kd.R_alloc | apply Kd.R_drewN | apply Kd.R_drew)); exact Kd.R_mono (Kd.R_far (p := ⟨gb13, 2, none⟩) (Kd.R_far (p := ⟨gb13, 1, none⟩) (Kd.R_far (p := ⟨gb13, 0, none⟩) (Kd.R_types HO63.out BK13.out (by decide)) (fun _ hk => hk.2) (.slice Ao111 t58.length co111)) (fun _ hk => hk.2) (.slice Ao114 t61.length co114)) (fun _ hk => hk.2) (.slice Ao115 t64.length co115)) (fun _ hk => hk.1), by (with_reducible repeat (first | apply Kd.R_alloc | apply Kd.R_drewN | apply Kd.R_drew)); exact Kd.R_mono (Kd.R_far (p := ⟨gb13, 2, none⟩) (Kd.R_far (p := ⟨gb13, 1, none⟩) (Kd.R_far (p := ⟨gb13, 0, none⟩) (Kd.R_types HO66.out BK13.out (by decide)) (fun _ hk => hk.2) (.slice Ao111 t58.length co111)) (fun _ hk => hk.2) (.slice Ao114 t61.length co114)) (fun _ hk => hk.2) (.slice Ao115 t64.length co115)) (fun _ hk => hk.1), by repeat ((with_reducible first | exact HB.out | refine below_set ?_ GE13.out))⟩
           ·rw [if_neg c105] at H
            have c105b0 : ((l0_2.length : Int) == 400) = false := beq_eq_false_iff_ne.mpr c105
            have c105b1 : ((l0_2.length : Int) != 400) = true := bne_iff_ne.mpr c105
            have H' := Aside0.mk H
            clear H
            have hnb116 := NB11_12.out
            have hnc116 := NB12_11.out
            have hnb117 := NB11_13.out
            have hnc117 := NB13_11.out
            obtain ⟨hcz118_0, hcz118_1, hcz118_2, hfz118_0, hfz118_1, hfz118_2⟩ := bk3 BK11.out
            go_wp2
            go_meet
            case rel => exact ⟨_, H', ⟨by have := HJ3.out; have := HJ62.out; first | omega ⟩, ⟨kM BK11.out⟩, ⟨kM BK12.out⟩, ⟨kM BK13.out⟩, ⟨by repeat ((with_reducible first | exact HB.out ))⟩⟩
          ·rw [if_neg c104] at H
           have c104b0 : (a2 == (-1)) = false := beq_eq_false_iff_ne.mpr c104
           have c104b1 : (a2 != (-1)) = true := bne_iff_ne.mpr c104
           have H' := Aside0.mk H
           clear H
           have hnb119 := NB11_12.out
           have hnc119 := NB12_11.out
           have hnb120 := NB11_13.out
           have hnc120 := NB13_11.out
           obtain ⟨hcz121_0, hcz121_1, hcz121_2, hfz121_0, hfz121_1, hfz121_2⟩ := bk3 BK11.out
           go_wp2
           go_meet
           case rel => exact ⟨_, H', ⟨by have := HJ3.out; have := HJ62.out; first | omega ⟩, ⟨kM BK11.out⟩, ⟨kM BK12.out⟩, ⟨kM BK13.out⟩, ⟨by repeat ((with_reducible first | exact HB.out ))⟩⟩
    case rest =>
     clear HC56
     try clear hcz59_0
     try clear hcz59_1
     try clear hcz59_2
     try clear hcz61_0
     try clear hcz61_1
     try clear hcz61_2
     try clear hcz61_3
     try clear hfz59_0
     try clear hfz59_1
     try clear hfz59_2
     try clear hfz61_0
     try clear hfz61_1
     try clear hfz61_2
     try clear hfz61_3
     obtain ⟨kq, HA, HJ55, BK11, BK12, BK13, HB⟩ := hcut
     cases kq with
     | zero => exact absurd HA.out (by simp [memo_Put.j2])
     | succ kj55 =>
      have H := HA.out
      clear HA
      simp only [memo_Put.j2] at H
      replace H := Option.bind_eq_some_iff.mp H
      obtain ⟨⟨t67, t70, t73⟩, A1220, H⟩ := H
      replace H : (if a2 = (-1) then ((some (([(t73.length : Int)] : List Int) : List Int)).bind fun y77 => (if t73.length + y77.length < 17592186044416 then ((some (t73 ++ y77 : List Int)).bind fun y80 => ((some (([(⟨a1_0, a1_1, a1_2, a1_3⟩ : S48)] : List (S48)) : List (S48))).bind fun y83 => (if t67.length + y83.length < 4398046511104 then ((some (t67 ++ y83 : List (S48))).bind fun y86 => ((some (([(t73.length : Int)] : List Int) : List Int)).bind fun y89 => (if t70.length + y89.length < 17592186044416 then ((some (t70 ++ y89 : List Int)).bind fun y92 => ((memo_Find.f kj55 y86 y92 y80 (t73.length : Int)).bind fun t95 => (some (y86, y92, y80, t95, 0)))) else (none)))) else (none)))) else (none))) else ((some (([(⟨a1_0, a1_1, a1_2, a1_3⟩ : S48)] : List (S48)) : List (S48))).bind fun y96 => (if t67.length + y96.length < 4398046511104 then ((some (t67 ++ y96 : List (S48))).bind fun y99 => ((some (([a2] : List Int) : List Int)).bind fun y102 => (if t70.length + y102.length < 17592186044416 then ((some (t70 ++ y102 : List Int)).bind fun y105 => ((memo_Find.f kj55 y99 y105 t73 a2).bind fun t108 => (some (y99, y105, t73, t108, 0)))) else (none)))) else (none)))) = some (r1, r2, r3, r4, r5) := H
      have A122 := Aside0.mk A1220
      clear A1220
      by_cases c123 : a2 = (-1)
      ·rw [if_pos c123] at H
       have c123b0 : (a2 == (-1)) = true := beq_iff_eq.mpr c123
       have c123b1 : (a2 != (-1)) = false := bne_eq_false_iff_eq.mpr c123
       clear c123
       obtain ⟨y77, hy77⟩ : ∃ y_ : List Int, y_ = (([(t73.length : Int)] : List Int)) := ⟨_, rfl⟩
       replace H : (if t73.length + y77.length < 17592186044416 then ((some (t73 ++ y77 : List Int)).bind fun y80 => ((some (([(⟨a1_0, a1_1, a1_2, a1_3⟩ : S48)] : List (S48)) : List (S48))).bind fun y83 => (if t67.length + y83.length < 4398046511104 then ((some (t67 ++ y83 : List (S48))).bind fun y86 => ((some (([(t73.length : Int)] : List Int) : List Int)).bind fun y89 => (if t70.length + y89.length < 17592186044416 then ((some (t70 ++ y89 : List Int)).bind fun y92 => ((memo_Find.f kj55 y86 y92 y80 (t73.length : Int)).bind fun t95 => (some (y86, y92, y80, t95, 0)))) else (none)))) else (none)))) else (none)) = some (r1, r2, r3, r4, r5) := by (have H2_ := (Option.bind_some _ _).symm.trans H; rw [hy77]; with_reducible exact H2_)
       have Ny77 := Aside0.mk hy77
       clear hy77
       by_cases c124 : t73.length + y77.length < 17592186044416
       ·rw [if_pos c124] at H
        have LMc124 := Aside0.mk c124
        clear c124
        obtain ⟨y80, hy80⟩ : ∃ y_ : List Int, y_ = (t73 ++ y77) := ⟨_, rfl⟩
        replace H : ((some (([(⟨a1_0, a1_1, a1_2, a1_3⟩ : S48)] : List (S48)) : List (S48))).bind fun y83 => (if t67.length + y83.length < 4398046511104 then ((some (t67 ++ y83 : List (S48))).bind fun y86 => ((some (([(t73.length : Int)] : List Int) : List Int)).bind fun y89 => (if t70.length + y89.length < 17592186044416 then ((some (t70 ++ y89 : List Int)).bind fun y92 => ((memo_Find.f kj55 y86 y92 y80 (t73.length : Int)).bind fun t95 => (some (y86, y92, y80, t95, 0)))) else (none)))) else (none))) = some (r1, r2, r3, r4, r5) := by (have H2_ := (Option.bind_some _ _).symm.trans H; rw [hy80]; with_reducible exact H2_)
        have Ny80 := Aside0.mk hy80
        clear hy80
        obtain ⟨y83, hy83⟩ : ∃ y_ : List (S48), y_ = (([(⟨a1_0, a1_1, a1_2, a1_3⟩ : S48)] : List (S48))) := ⟨_, rfl⟩
        replace H : (if t67.length + y83.length < 4398046511104 then ((some (t67 ++ y83 : List (S48))).bind fun y86 => ((some (([(t73.length : Int)] : List Int) : List Int)).bind fun y89 => (if t70.length + y89.length < 17592186044416 then ((some (t70 ++ y89 : List Int)).bind fun y92 => ((memo_Find.f kj55 y86 y92 y80 (t73.length : Int)).bind fun t95 => (some (y86, y92, y80, t95, 0)))) else (none)))) else (none)) = some (r1, r2, r3, r4, r5) := by (have H2_ := (Option.bind_some _ _).symm.trans H; rw [hy83]; with_reducible exact H2_)
        have Ny83 := Aside0.mk hy83
        clear hy83
        by_cases c125 : t67.length + y83.length < 4398046511104
        ·rw [if_pos c125] at H
         have LMc125 := Aside0.mk c125
         clear c125
         obtain ⟨y86, hy86⟩ : ∃ y_ : List (S48), y_ = (t67 ++ y83) := ⟨_, rfl⟩
         replace H : ((some (([(t73.length : Int)] : List Int) : List Int)).bind fun y89 => (if t70.length + y89.length < 17592186044416 then ((some (t70 ++ y89 : List Int)).bind fun y92 => ((memo_Find.f kj55 y86 y92 y80 (t73.length : Int)).bind fun t95 => (some (y86, y92, y80, t95, 0)))) else (none))) = some (r1, r2, r3, r4, r5) := by (have H2_ := (Option.bind_some _ _).symm.trans H; rw [hy86]; with_reducible exact H2_)
         have Ny86 := Aside0.mk hy86
         clear hy86
         obtain ⟨y89, hy89⟩ : ∃ y_ : List Int, y_ = (([(t73.length : Int)] : List Int)) := ⟨_, rfl⟩
         replace H : (if t70.length + y89.length < 17592186044416 then ((some (t70 ++ y89 : List Int)).bind fun y92 => ((memo_Find.f kj55 y86 y92 y80 (t73.length : Int)).bind fun t95 => (some (y86, y92, y80, t95, 0)))) else (none)) = some (r1, r2, r3, r4, r5) := by (have H2_ := (Option.bind_some _ _).symm.trans H; rw [hy89]; with_reducible exact H2_)
         have Ny89 := Aside0.mk hy89
         clear hy89
         by_cases c126 : t70.length + y89.length < 17592186044416
         ·rw [if_pos c126] at H
          have LMc126 := Aside0.mk c126
          clear c126
          obtain ⟨y92, hy92⟩ : ∃ y_ : List Int, y_ = (t70 ++ y89) := ⟨_, rfl⟩
          replace H : ((memo_Find.f kj55 y86 y92 y80 (t73.length : Int)).bind fun t95 => (some (y86, y92, y80, t95, 0))) = some (r1, r2, r3, r4, r5) := by (have H2_ := (Option.bind_some _ _).symm.trans H; rw [hy92]; with_reducible exact H2_)
          have Ny92 := Aside0.mk hy92
          clear hy92
          replace H := Option.bind_eq_some_iff.mp H
          obtain ⟨t95, A1270, H⟩ := H
          have A127 := Aside0.mk A1270
          clear A1270
          simp only [Option.some.injEq, Prod.mk.injEq] at H
          obtain ⟨rfl, rfl, rfl, rfl, rfl⟩ := H
          have hnb128 := NB11_12.out
          have hnc128 := NB12_11.out
          have hnb129 := NB11_13.out
          have hnc129 := NB13_11.out
          obtain ⟨hcz130_0, hcz130_1, hcz130_2, hfz130_0, hfz130_1, hfz130_2⟩ := bk3 BK11.out
          try go_wp2_with (first | ((with_reducible refine gate_callee (f := 75) rfl ?_); refine goesL_ (some 80) rfl rfl Try.func75 (by kernel_rfl) rfl #[.agg #[.slice A0_0 l0_0.length c0_0, .slice A0_1 l0_1.length c0_1, .slice A0_2 l0_2.length c0_2]] rfl (by (try simp only [List.map_toArray, List.map_cons, List.map_nil]); first | rfl ) ?_; (with_reducible refine (memo_own.calls kj55 _ _ l0_0 _ _ l0_1 _ _ l0_2 t67 t70 t73 _ ?side1 ?side2 ?side3 ?side4 ?side5 ?side6 A122.out).mono ?_); (case side1 => exact cM (Kd.C_below HR0_0.out HB.out)); (case side2 => exact HC0_0.out); (case side3 => exact cM (Kd.C_below HR0_1.out HB.out)); (case side4 => exact HC0_1.out); (case side5 => exact cM (Kd.C_below HR0_2.out HB.out)); (case side6 => exact HC0_2.out); rintro e w131 ⟨v68, v71, v74, rfl, ho0, ho1, ho2, hb⟩; refine ⟨_, rfl, ?_⟩; have HO69 := Aside0.mk (Kd.R_lower (Kd.R_newB ho0 (kM BK12.out)) (below_size (by exact wM HB.out))); have HO72 := Aside0.mk (Kd.R_lower ho1 (below_size (by exact wM HB.out))); have HO75 := Aside0.mk (Kd.R_lower ho2 (below_size (by exact wM HB.out))); replace BK11 := Aside0.mk (blk_below (kM BK11.out) hb); replace BK12 := Aside0.mk (blk_below (kM BK12.out) hb); replace BK13 := Aside0.mk (blk_below (kM BK13.out) hb); replace HB := Aside0.mk (below_step (by exact wM HB.out) hb); (try clear hb); (try clear ho0); (try clear ho1); (try clear ho2)) | ((with_reducible refine gate_dst (N := 11) rfl ?_); (try (refine gate_guard (by rfl) ?_; dsimp only)); refine box_event ?hg (N := 11) ?hd (cs := #[.slice none 0 0, .slice none 0 0, .slice none 0 0]) (t := 38) ?hr ?_; (case hd => rfl); (case hg => rfl); (case hr => first | (go_simp; done) ); intro gb76 hg w132 hbox hb; replace HO69 := Aside0.mk (Kd.R_below (rM HO69.out) hb); replace HO72 := Aside0.mk (Kd.R_below (rM HO72.out) hb); replace HO75 := Aside0.mk (Kd.R_below (rM HO75.out) hb); have BK76 := Aside0.mk (hbox); have GW76 := Aside0.mk ((by rw [hg]; exact (below_size (by exact wM HB.out)) : w.heap.size ≤ gb76)); have GE76 := Aside0.mk ((by rw [hg]; exact (below_size (by exact wM HB.out)) : w.heap.size ≤ gb76)); replace HB := Aside0.mk (below_step (by exact wM HB.out) hb); have NB11_76 := Aside0.mk ((by rw [hg]; exact Nat.ne_of_lt (blk_lt (kM BK11.out)) : gb11 ≠ gb76)); have NB76_11 := Aside0.mk ((by rw [hg]; exact Nat.ne_of_gt (blk_lt (kM BK11.out)) : gb76 ≠ gb11)); replace BK11 := Aside0.mk (blk_below (kM BK11.out) hb); have NB12_76 := Aside0.mk ((by rw [hg]; exact Nat.ne_of_lt (blk_lt (kM BK12.out)) : gb12 ≠ gb76)); have NB76_12 := Aside0.mk ((by rw [hg]; exact Nat.ne_of_gt (blk_lt (kM BK12.out)) : gb76 ≠ gb12)); replace BK12 := Aside0.mk (blk_below (kM BK12.out) hb); have NB13_76 := Aside0.mk ((by rw [hg]; exact Nat.ne_of_lt (blk_lt (kM BK13.out)) : gb13 ≠ gb76)); have NB76_13 := Aside0.mk ((by rw [hg]; exact Nat.ne_of_gt (blk_lt (kM BK13.out)) : gb76 ≠ gb13)); replace BK13 := Aside0.mk (blk_below (kM BK13.out) hb); clear hb hbox hg; obtain ⟨Ao133, co133, eo133⟩ := Kd.R_slice HO69.out; subst eo133; have hnb134 := NB76_11.out; have hnc134 := NB11_76.out; have hnb135 := NB76_12.out; have hnc135 := NB12_76.out; have hnb136 := NB76_13.out; have hnc136 := NB13_76.out; obtain ⟨hcz137_0, hcz137_1, hcz137_2, hfz137_0, hfz137_1, hfz137_2⟩ := bk3 BK76.out; obtain ⟨Ao138, co138, eo138⟩ := Kd.R_slice HO72.out; subst eo138; obtain ⟨Ao139, co139, eo139⟩ := Kd.R_slice HO75.out; subst eo139) | ((with_reducible refine gate_dst (N := 89) rfl ?_); (try (refine gate_guard (by rfl) ?_; dsimp only)); refine Kd.R_lit (Kd.int .i64) _ 3 ?hg (N := 89) ?hd (xs := ([(t73.length : Int)] : List Int)) (inner := [.int .i64 (t73.length : Int)]) (ok := fun _ => True) (okp := fun _ => True) ?hr ?hp (fun _ hk => hk) trivial (Below.refl _ _) (Nat.le_refl _) (by simp) ?_; (case hd => rfl); (case hg => rfl); (case hr => first | (go_simp; done) ); (case hp => exact (Reps.one (show Kd.M (Kd.int .i64) _ _ _ (t73.length : Int) [.int .i64 (t73.length : Int)] from rfl) (Reps.none _ _))); intro v78 w140 ho141 hb hg_ hnew_; clear hg_ hnew_; (rw [← Ny77.out] at ho141); replace HO69 := Aside0.mk (Kd.R_below (rF HO69.out BK76.out (by decide)) hb); have HO79 := Aside0.mk (Kd.R_lower (Kd.R_new' (Kd.R_new' ho141 (Kd.R_lt (rF HO72.out BK76.out (by decide)))) (Kd.R_lt (rF HO75.out BK76.out (by decide)))) (below_size (by exact wF HB.out GE76.out))); replace HO72 := Aside0.mk (Kd.R_elder' (rF HO72.out BK76.out (by decide)) (Kd.R_base ho141) hb); replace HO75 := Aside0.mk (Kd.R_elder' (rF HO75.out BK76.out (by decide)) (Kd.R_base ho141) hb); replace BK11 := Aside0.mk (blk_below (kF BK11.out NB11_76.out) hb); replace BK12 := Aside0.mk (blk_below (kF BK12.out NB12_76.out) hb); replace BK13 := Aside0.mk (blk_below (kF BK13.out NB13_76.out) hb); replace BK76 := Aside0.mk (blk_below (g := gb76) (o := .cells #[.slice Ao133 t67.length co133, .slice Ao138 t70.length co138, .slice Ao139 t73.length co139] 38 (0, 0)) (by (with_reducible repeat (first | refine blk_drewN ?_ _ | refine blk_drew ?_ | refine blk_alloc ?_ _)); exact kP1 BK76.out) hb); replace HB := Aside0.mk (below_step (by exact wF HB.out GE76.out) hb); clear hb ho141; obtain ⟨Ao143, co143, eo143⟩ := Kd.R_slice HO79.out; subst eo143) | ((with_reducible refine gate_builtin (b := .append) (xs := #[.tmp 87, .tmp 89]) rfl ?_); (try (refine gate_guard (by rfl) ?_; dsimp only)); at_builtin; refine Kd.R_append_rows (Kd.int .i64) (w0 := w) w.heap.size rfl (.tmp 87) (.tmp 89) 22 3 (.int .i64 0) 8 rfl Try.underlying22 info3 rfl (by decide) (by omega) (.slice Ao139 t73.length co139) t73 y77 _ _ _ (fun k_ => some k_ ≠ (.slice Ao138 t70.length co138 : Value).ownBlock ∧ some k_ ≠ (.slice Ao143 y77.length co143 : Value).ownBlock) (fun _ => False) rfl rfl ?aO ?aR (fun _ _ h => h) (fun _ h => h.elim) ?aF ?aB ?aS ?aL ?_; (case aR => exact cM (Kd.R_reads' HO79.out).2.2); (case aB => exact (by exact wM HB.out)); (case aF => exact (fun k_ hk => ⟨Kd.fresh' (Kd.R_lt (rM HO72.out)) k_ hk, Kd.fresh' (Kd.R_lt (rM HO79.out)) k_ hk⟩)); (case aO => exact (rM HO75.out)); (case aS => exact (below_size (by exact wM HB.out))); (case aL => have := LMc124.out; omega); intro v81 w142 ho hb hg hat; rw [← Ny80.out] at ho; replace BK11 := Aside0.mk (blk_grown (kM BK11.out) hg (Kd.R_ne HO75.out BK11.out (by decide))); replace BK12 := Aside0.mk (blk_grown (kM BK12.out) hg (Kd.R_ne HO75.out BK12.out (by decide))); replace BK13 := Aside0.mk (blk_grown (kM BK13.out) hg (Kd.R_ne HO75.out BK13.out (by decide))); replace HO69 := Aside0.mk (Kd.R_over' (rM HO69.out) (Kd.R_typed (rM HO75.out)) (by decide) hg); replace HO72 := Aside0.mk (Kd.R_after (ok := (fun k_ => some k_ ≠ (.slice Ao143 y77.length co143 : Value).ownBlock)) (by (with_reducible repeat (first | apply Kd.R_alloc | apply Kd.R_drewN | apply Kd.R_drew)); exact Kd.R_mono HO72.out (fun _ hk => ⟨hk.2, hk.1⟩)) hg hat); replace BK76 := Aside0.mk (blk_grown (kM BK76.out) hg (Kd.R_ne HO75.out BK76.out (by decide))); replace HO79 := Aside0.mk (Kd.R_after (ok := (fun k_ => some k_ ≠ (.slice Ao138 t70.length co138 : Value).ownBlock)) (by (with_reducible repeat (first | apply Kd.R_alloc | apply Kd.R_drewN | apply Kd.R_drew)); exact Kd.R_mono HO79.out (fun _ hk => ⟨hk.1.2, hk.2⟩)) hg hat); replace HB := Aside0.mk (hb); have HO82 := Aside0.mk (ho); clear HO75; clear ho hb hg hat; obtain ⟨Ao144, co144, eo144⟩ := Kd.R_slice HO82.out; subst eo144; obtain ⟨hcz145_0, hcz145_1, hcz145_2, hfz145_0, hfz145_1, hfz145_2⟩ := bk3 BK76.out))
          have n0_ : Aside0 (Kd.R k48 48 (w142.setCell ⟨gb76, 2, none⟩ (.slice Ao144 y80.length co144)) w.heap.size (fun k_ => k_ ≠ gb12) (.slice Ao133 t67.length co133) t67) := ⟨by (with_reducible repeat (first | apply Kd.R_alloc | apply Kd.R_drewN | apply Kd.R_drew)); exact Kd.R_mono (Kd.R_far (p := ⟨gb76, 2, none⟩) (Kd.R_types HO69.out BK76.out (by decide)) (fun _ hk => hk.2) (.slice Ao144 y80.length co144)) (fun _ hk => hk.1.2)⟩
          have n1_ : Aside0 (Kd.R (Kd.int .i64) 3 (w142.setCell ⟨gb76, 2, none⟩ (.slice Ao144 y80.length co144)) w.heap.size (fun k_ => some k_ ≠ (.slice Ao143 y77.length co143 : Value).ownBlock ∧ some k_ ≠ (.slice Ao144 y80.length co144 : Value).ownBlock) (.slice Ao138 t70.length co138) t70) := ⟨by (with_reducible repeat (first | apply Kd.R_alloc | apply Kd.R_drewN | apply Kd.R_drew)); exact Kd.R_mono (Kd.R_far (p := ⟨gb76, 2, none⟩) (Kd.R_types HO72.out BK76.out (by decide)) (fun _ hk => hk.2) (.slice Ao144 y80.length co144)) (fun _ hk => ⟨hk.1.1, hk.1.2⟩)⟩
          have n2_ : Aside0 (Kd.R (Kd.int .i64) 3 (w142.setCell ⟨gb76, 2, none⟩ (.slice Ao144 y80.length co144)) w.heap.size (fun k_ => some k_ ≠ (.slice Ao138 t70.length co138 : Value).ownBlock ∧ some k_ ≠ (.slice Ao144 y80.length co144 : Value).ownBlock) (.slice Ao143 y77.length co143) y77) := ⟨by (with_reducible repeat (first | apply Kd.R_alloc | apply Kd.R_drewN | apply Kd.R_drew)); exact Kd.R_mono (Kd.R_far (p := ⟨gb76, 2, none⟩) (Kd.R_types HO79.out BK76.out (by decide)) (fun _ hk => hk.2) (.slice Ao144 y80.length co144)) (fun _ hk => ⟨hk.1.1, hk.1.2⟩)⟩
          have n3_ : Aside0 (Kd.R (Kd.int .i64) 3 (w142.setCell ⟨gb76, 2, none⟩ (.slice Ao144 y80.length co144)) w.heap.size (fun k_ => some k_ ≠ (.slice Ao138 t70.length co138 : Value).ownBlock ∧ some k_ ≠ (.slice Ao143 y77.length co143 : Value).ownBlock) (.slice Ao144 y80.length co144) y80) := ⟨by (with_reducible repeat (first | apply Kd.R_alloc | apply Kd.R_drewN | apply Kd.R_drew)); exact Kd.R_mono (Kd.R_far (p := ⟨gb76, 2, none⟩) (Kd.R_types HO82.out BK76.out (by decide)) (fun _ hk => hk.2) (.slice Ao144 y80.length co144)) (fun _ hk => ⟨hk.1.1, hk.1.2⟩)⟩
          have n4_ : Aside0 ((w142.setCell ⟨gb76, 2, none⟩ (.slice Ao144 y80.length co144)).heap[gb11]? = some (.cells #[.slice A0_0 l0_0.length c0_0, .slice A0_1 l0_1.length c0_1, .slice A0_2 l0_2.length c0_2] 38 (0, 0))) := ⟨by (with_reducible repeat (first | refine blk_drewN ?_ _ | refine blk_drew ?_ | refine blk_alloc ?_ _)); refine blk_far ?_ NB11_76.out _; (with_reducible repeat (first | refine blk_drewN ?_ _ | refine blk_drew ?_ | refine blk_alloc ?_ _)); exact BK11.out⟩
          have n5_ : Aside0 ((w142.setCell ⟨gb76, 2, none⟩ (.slice Ao144 y80.length co144)).heap[gb12]? = some (.cells #[.bool a1_0, .int .i64 a1_1, .int .i64 a1_2, .int .i64 a1_3] 48 (0, 0))) := ⟨by (with_reducible repeat (first | refine blk_drewN ?_ _ | refine blk_drew ?_ | refine blk_alloc ?_ _)); refine blk_far ?_ NB12_76.out _; (with_reducible repeat (first | refine blk_drewN ?_ _ | refine blk_drew ?_ | refine blk_alloc ?_ _)); exact BK12.out⟩
          have n6_ : Aside0 ((w142.setCell ⟨gb76, 2, none⟩ (.slice Ao144 y80.length co144)).heap[gb13]? = some (.cells #[.slice none 0 0, .slice none 0 0, .slice none 0 0] 38 (0, 0))) := ⟨by (with_reducible repeat (first | refine blk_drewN ?_ _ | refine blk_drew ?_ | refine blk_alloc ?_ _)); refine blk_far ?_ NB13_76.out _; (with_reducible repeat (first | refine blk_drewN ?_ _ | refine blk_drew ?_ | refine blk_alloc ?_ _)); exact BK13.out⟩
          have n7_ : Aside0 ((w142.setCell ⟨gb76, 2, none⟩ (.slice Ao144 y80.length co144)).heap[gb76]? = some (.cells #[.slice Ao133 t67.length co133, .slice Ao138 t70.length co138, .slice Ao144 y80.length co144] 38 (0, 0))) := ⟨by (with_reducible repeat (first | refine blk_drewN ?_ _ | refine blk_drew ?_ | refine blk_alloc ?_ _)); refine blk_put (cs := #[.slice Ao133 t67.length co133, .slice Ao138 t70.length co138, .slice Ao139 t73.length co139]) ?_ 2 _ rfl; (with_reducible repeat (first | refine blk_drewN ?_ _ | refine blk_drew ?_ | refine blk_alloc ?_ _)); exact BK76.out⟩
          have n8_ : Aside0 (Below w.heap.size w (w142.setCell ⟨gb76, 2, none⟩ (.slice Ao144 y80.length co144))) := ⟨by repeat ((with_reducible first | exact HB.out | refine below_set ?_ GE76.out))⟩
          (try clear HO69)
          (try clear HO72)
          (try clear HO79)
          (try clear HO82)
          (try clear BK11)
          (try clear BK12)
          (try clear BK13)
          (try clear BK76)
          (try clear HB)
          generalize (w142.setCell ⟨gb76, 2, none⟩ (.slice Ao144 y80.length co144)) = w146 at n0_ n1_ n2_ n3_ n4_ n5_ n6_ n7_ n8_ ⊢
          have HO69 := n0_
          have HO72 := n1_
          have HO79 := n2_
          have HO82 := n3_
          have BK11 := n4_
          have BK12 := n5_
          have BK13 := n6_
          have BK76 := n7_
          have HB := n8_
          clear n0_ n1_ n2_ n3_ n4_ n5_ n6_ n7_ n8_
          replace HO69 := Aside0.mk (Kd.R_drew HO69.out)
          replace HO72 := Aside0.mk (Kd.R_drew HO72.out)
          replace HO79 := Aside0.mk (Kd.R_drew HO79.out)
          replace HO82 := Aside0.mk (Kd.R_drew HO82.out)
          replace BK11 := Aside0.mk (blk_drew BK11.out)
          replace BK12 := Aside0.mk (blk_drew BK12.out)
          replace BK13 := Aside0.mk (blk_drew BK13.out)
          replace BK76 := Aside0.mk (blk_drew BK76.out)
          replace HB := Aside0.mk (below_drew1 HB.out)
          refine start_ (n := 14) (S := fun w' => w'.cell? ⟨gb76, 0, none⟩ = some (.slice Ao133 t67.length co133) ∧ w'.cell? ⟨gb76, 1, none⟩ = some (.slice Ao138 t70.length co138) ∧ w'.cell? ⟨gb76, 2, none⟩ = some (.slice Ao144 y80.length co144) ∧ w'.cell? ⟨gb12, 0, none⟩ = some (.bool a1_0) ∧ w'.cell? ⟨gb12, 1, none⟩ = some (.int .i64 a1_1) ∧ w'.cell? ⟨gb12, 2, none⟩ = some (.int .i64 a1_2) ∧ w'.cell? ⟨gb12, 3, none⟩ = some (.int .i64 a1_3)) (ds := [11, 13]) #[false, false, false, false, false, false, false, false, false, false, false, false, false, false] (by kernel_rfl) rfl rfl ⟨(blk_cell BK76.out 0).trans rfl, (blk_cell BK76.out 1).trans rfl, (blk_cell BK76.out 2).trans rfl, (blk_cell BK12.out 0).trans rfl, (blk_cell BK12.out 1).trans rfl, (blk_cell BK12.out 2).trans rfl, (blk_cell BK12.out 3).trans rfl⟩ (fun hHeld => ?_); refine with_tabW memo_Put.tab15 memo_Put.bits15 (fun HT_ HW_ => ?_)
          generalize w146.drew = w147 at HO69 HO72 HO79 HO82 BK11 BK12 BK13 BK76 HB hHeld ⊢
          refine pure_ (i := 0) (N := some 92) (v := ?_) (a' := ?_) #[true, false, false, false, false, false, false, false, false, false, false, false, false, false] rfl rfl (any_of HT_.out (by kernel_rfl)) (fun _ _ _ h => h) (Or.inl ⟨by rfl, ?_⟩) ?_ ?_
          rotate_left
          ·intro w'
           go_simp
           with_reducible rfl
          rotate_left
          ·simp only [Act.put, List.setIfInBounds_toArray, List.set_cons_zero, List.set_cons_succ, i64_w, i32_w]
           rfl
          refine pure_ (i := 5) (N := some 97) (v := ?_) (a' := ?_) #[true, false, false, false, false, true, false, false, false, false, false, false, false, false] rfl rfl (any_of HT_.out (by kernel_rfl)) (fun _ _ _ h => h) (Or.inl ⟨by rfl, ?_⟩) ?_ ?_
          rotate_left
          ·intro w'
           go_simp
           with_reducible rfl
          rotate_left
          ·simp only [Act.put, List.setIfInBounds_toArray, List.set_cons_zero, List.set_cons_succ, i64_w, i32_w]
           rfl
          refine pure_ (i := 7) (N := some 99) (v := ?_) (a' := ?_) #[true, false, false, false, false, true, false, true, false, false, false, false, false, false] rfl rfl (any_of HT_.out (by kernel_rfl)) (fun _ _ _ h => h) (Or.inl ⟨by rfl, ?_⟩) ?_ ?_
          rotate_left
          ·intro w'
           go_simp
           with_reducible rfl
          rotate_left
          ·simp only [Act.put, List.setIfInBounds_toArray, List.set_cons_zero, List.set_cons_succ, i64_w, i32_w]
           rfl
          refine take_ (i := 1) (N := some 93) (v := ?_) (a' := ?_) #[true, true, false, false, false, true, false, true, false, false, false, false, false, false] rfl rfl (take_ofW HT_.out HW_.out (by kernel_rfl)) (fun _ _ _ h => h) (Or.inl ⟨by rfl, ?_⟩) hHeld ?_ ?_
          rotate_left
          ·rintro w' ⟨s0, s1, s2, s3, s4, s5, s6⟩
           go_simp
           with_reducible rfl
          rotate_left
          ·simp only [Act.put, List.setIfInBounds_toArray, List.set_cons_zero, List.set_cons_succ, i64_w, i32_w]
           rfl
          refine take_ (i := 2) (N := some 94) (v := ?_) (a' := ?_) #[true, true, true, false, false, true, false, true, false, false, false, false, false, false] rfl rfl (take_ofW HT_.out HW_.out (by kernel_rfl)) (fun _ _ _ h => h) (Or.inl ⟨by rfl, ?_⟩) hHeld ?_ ?_
          rotate_left
          ·rintro w' ⟨s0, s1, s2, s3, s4, s5, s6⟩
           go_simp
           with_reducible rfl
          rotate_left
          ·simp only [Act.put, List.setIfInBounds_toArray, List.set_cons_zero, List.set_cons_succ, i64_w, i32_w]
           rfl
          refine take_ (i := 6) (N := some 98) (v := ?_) (a' := ?_) #[true, true, true, false, false, true, true, true, false, false, false, false, false, false] rfl rfl (take_ofW HT_.out HW_.out (by kernel_rfl)) (fun _ _ _ h => h) (Or.inl ⟨by rfl, ?_⟩) hHeld ?_ ?_
          rotate_left
          ·rintro w' ⟨s0, s1, s2, s3, s4, s5, s6⟩
           go_simp
           with_reducible rfl
          rotate_left
          ·simp only [Act.put, List.setIfInBounds_toArray, List.set_cons_zero, List.set_cons_succ, i64_w, i32_w]
           rfl
          refine join_ (σ := Value × Value × Value) 4 #[true, true, true, true, true, true, true, true, true, false, true, false, false, false] (fun s_ => [(95, s_.1), (96, s_.2.1), (100, s_.2.2), (102, .pointer (some ⟨gb76, 0, none⟩))]) (fun s_ w' => (w'.cell? ⟨gb76, 0, none⟩ = some (.slice Ao133 t67.length co133) ∧ w'.cell? ⟨gb76, 1, none⟩ = some (.slice Ao138 t70.length co138) ∧ w'.cell? ⟨gb76, 2, none⟩ = some (.slice Ao144 y80.length co144) ∧ w'.cell? ⟨gb12, 0, none⟩ = some (.bool a1_0) ∧ w'.cell? ⟨gb12, 1, none⟩ = some (.int .i64 a1_1) ∧ w'.cell? ⟨gb12, 2, none⟩ = some (.int .i64 a1_2) ∧ w'.cell? ⟨gb12, 3, none⟩ = some (.int .i64 a1_3)) ∧ (Kd.R (Kd.int .i64) 3 w' w.heap.size (fun k_ => some k_ ≠ (.slice Ao143 y77.length co143 : Value).ownBlock ∧ some k_ ≠ (.slice Ao144 y80.length co144 : Value).ownBlock ∧ some k_ ≠ (s_.2.2 : Value).ownBlock) (.slice Ao138 t70.length co138) t70) ∧ (Kd.R (Kd.int .i64) 3 w' w.heap.size (fun k_ => some k_ ≠ (.slice Ao138 t70.length co138 : Value).ownBlock ∧ some k_ ≠ (.slice Ao144 y80.length co144 : Value).ownBlock ∧ some k_ ≠ (s_.2.2 : Value).ownBlock) (.slice Ao143 y77.length co143) y77) ∧ (Kd.R (Kd.int .i64) 3 w' w.heap.size (fun k_ => some k_ ≠ (.slice Ao138 t70.length co138 : Value).ownBlock ∧ some k_ ≠ (.slice Ao143 y77.length co143 : Value).ownBlock ∧ some k_ ≠ (s_.2.2 : Value).ownBlock) (.slice Ao144 y80.length co144) y80) ∧ (Kd.R k48 48 w' w.heap.size (fun k_ => some k_ ≠ (s_.2.1 : Value).ownBlock ∧ k_ ≠ gb12) s_.1 y83) ∧ (Kd.R k48 48 w' w.heap.size (fun k_ => some k_ ≠ (s_.1 : Value).ownBlock ∧ k_ ≠ gb12) s_.2.1 y86) ∧ (Kd.R (Kd.int .i64) 3 w' w.heap.size (fun k_ => some k_ ≠ (.slice Ao138 t70.length co138 : Value).ownBlock ∧ some k_ ≠ (.slice Ao143 y77.length co143 : Value).ownBlock ∧ some k_ ≠ (.slice Ao144 y80.length co144 : Value).ownBlock) s_.2.2 y89) ∧ (w'.heap[gb11]? = some (.cells #[.slice A0_0 l0_0.length c0_0, .slice A0_1 l0_1.length c0_1, .slice A0_2 l0_2.length c0_2] 38 (0, 0))) ∧ (w'.heap[gb12]? = some (.cells #[.bool a1_0, .int .i64 a1_1, .int .i64 a1_2, .int .i64 a1_3] 48 (0, 0))) ∧ (w'.heap[gb13]? = some (.cells #[.slice none 0 0, .slice none 0 0, .slice none 0 0] 38 (0, 0))) ∧ (w'.heap[gb76]? = some (.cells #[.slice Ao133 t67.length co133, .slice Ao138 t70.length co138, .slice Ao144 y80.length co144] 38 (0, 0))) ∧ (Below w.heap.size w w')) ?_ ?_
          rotate_left
          ·intro hCont
           refine two_ (i := 3) (j := 8) (Ni := some 95) (Nj := some 100) #[true, true, true, true, false, true, true, true, false, false, false, false, false, false] #[true, true, true, false, false, true, true, true, true, false, false, false, false, false] rfl rfl rfl rfl (two_of HT_.out (by kernel_rfl)) (by decide) (by decide) (fun K hK => ?_) (fun K hK => ?_)
           ·skip
            refine Kd.R_lit_step k48 _ 48 ?hg (N := 95) ?hd (xs := ([(⟨a1_0, a1_1, a1_2, a1_3⟩ : S48)] : List (S48))) (inner := [.bool a1_0, .int .i64 a1_1, .int .i64 a1_2, .int .i64 a1_3]) (ok := fun _ => True) (okp := fun _ => True) ?hr ?hp (fun _ hk => hk) trivial (Below.refl _ _) (Nat.le_refl _) (by simp) ?_; (case hd => rfl); (case hg => rfl); (case hr => first | (go_simp; done) ); (case hp => exact (Reps.c4 (show Kd.M k48 _ _ _ (⟨a1_0, a1_1, a1_2, a1_3⟩ : S48) [.bool a1_0, .int .i64 a1_1, .int .i64 a1_2, .int .i64 a1_3] from (k48_mkM _ _ _ (⟨a1_0, a1_1, a1_2, a1_3⟩ : S48) )) (Reps.none _ _)))
            intro v84 w148 ho149 hb hg_ hnew_
            clear hg_ hnew_
            (rw [← Ny83.out] at ho149)
            replace HO72 := Aside0.mk (Kd.R_below (rM HO72.out) hb)
            replace HO79 := Aside0.mk (Kd.R_below (rM HO79.out) hb)
            replace HO82 := Aside0.mk (Kd.R_below (rM HO82.out) hb)
            have HO85 := Aside0.mk (Kd.R_lower (Kd.R_newB (Kd.R_new' ho149 (Kd.R_lt (rM HO69.out))) (kM BK12.out)) (below_size (by exact wM HB.out)))
            replace HO69 := Aside0.mk (Kd.R_elder' (rM HO69.out) (Kd.R_base ho149) hb)
            replace BK11 := Aside0.mk (blk_below (kM BK11.out) hb)
            replace BK12 := Aside0.mk (blk_below (kM BK12.out) hb)
            replace BK13 := Aside0.mk (blk_below (kM BK13.out) hb)
            replace BK76 := Aside0.mk (blk_below (kM BK76.out) hb)
            replace HB := Aside0.mk (below_step (by exact wM HB.out) hb)
            clear hb ho149
            obtain ⟨Ao151, co151, eo151⟩ := Kd.R_slice HO85.out
            (subst eo151)
            refine hK.out _ _ ⟨(blk_cell BK76.out 0).trans rfl, (blk_cell BK76.out 1).trans rfl, (blk_cell BK76.out 2).trans rfl, (blk_cell BK12.out 0).trans rfl, (blk_cell BK12.out 1).trans rfl, (blk_cell BK12.out 2).trans rfl, (blk_cell BK12.out 3).trans rfl⟩ (fun hHeld => ?_)
            clear hK K
            refine norm_ (a' := ?_) ?_ ?_
            rotate_left
            ·show Act.put _ (some 95) _ = _
             simp only [Act.put, List.setIfInBounds_toArray, List.set_cons_zero, List.set_cons_succ, i64_w, i32_w]
             rfl
            refine two_ (i := 4) (j := 8) (Ni := some 96) (Nj := some 100) #[true, true, true, true, true, true, true, true, false, false, false, false, false, false] #[true, true, true, true, false, true, true, true, true, false, false, false, false, false] rfl rfl rfl rfl (two_of HT_.out (by kernel_rfl)) (by decide) (by decide) (fun K hK => ?_) (fun K hK => ?_)
            ·skip
             refine Kd.R_append_rows_step k48 (w0 := w) w.heap.size (by rfl) (.tmp 93) (.tmp 95) 36 48 (.agg #[(.bool false), (.int .i64 0), (.int .i64 0), (.int .i64 0)]) 32 rfl Try.underlying36 info48 rfl (by decide) (by omega) (.slice Ao133 t67.length co133) t67 y83 _ _ _ (fun k_ => some k_ ≠ (.slice Ao151 y83.length co151 : Value).ownBlock ∧ k_ ≠ gb12) (fun _ => False) rfl rfl ?aO ?aR (fun _ _ h => h) (fun _ h => h.elim) ?aF ?aB ?aS ?aL ?_
             (case aR => exact cM (Kd.R_reads' HO85.out).2.2)
             (case aB => exact (by exact wM HB.out))
             (case aF => exact (fun k_ hk => ⟨Kd.fresh' (Kd.R_lt (rM HO85.out)) k_ hk, Kd.freshB (kM BK12.out) k_ hk⟩))
             (case aO => exact (by (with_reducible repeat (first | apply Kd.R_alloc | apply Kd.R_drewN | apply Kd.R_drew)); exact Kd.R_mono HO69.out (fun _ hk => ⟨hk.2, hk.1⟩)))
             (case aS => exact (below_size (by exact wM HB.out)))
             (case aL => have := LMc125.out; omega)
             intro v87 w150 ho hb hg hat
             rw [← Ny86.out] at ho
             replace BK11 := Aside0.mk (blk_grown (kM BK11.out) hg (Kd.R_ne HO69.out BK11.out (by decide)))
             replace BK12 := Aside0.mk (blk_grown (kM BK12.out) hg (Kd.R_away HO69.out (fun _ hk => hk.1)))
             replace BK13 := Aside0.mk (blk_grown (kM BK13.out) hg (Kd.R_ne HO69.out BK13.out (by decide)))
             replace HO72 := Aside0.mk (Kd.R_over' (rM HO72.out) (Kd.R_typed (rM HO69.out)) (by decide) hg)
             replace BK76 := Aside0.mk (blk_grown (kM BK76.out) hg (Kd.R_ne HO69.out BK76.out (by decide)))
             replace HO79 := Aside0.mk (Kd.R_over' (rM HO79.out) (Kd.R_typed (rM HO69.out)) (by decide) hg)
             replace HO82 := Aside0.mk (Kd.R_over' (rM HO82.out) (Kd.R_typed (rM HO69.out)) (by decide) hg)
             replace HO85 := Aside0.mk (Kd.R_after (ok := (fun k_ => k_ ≠ gb12)) (by (with_reducible repeat (first | apply Kd.R_alloc | apply Kd.R_drewN | apply Kd.R_drew)); exact Kd.R_mono HO85.out (fun _ hk => ⟨hk.2, hk.1.2⟩)) hg hat)
             replace HB := Aside0.mk (hb)
             have HO88 := Aside0.mk (ho)
             clear HO69
             clear ho hb hg hat
             refine hK.out _ _ ⟨(blk_cell BK76.out 0).trans rfl, (blk_cell BK76.out 1).trans rfl, (blk_cell BK76.out 2).trans rfl, (blk_cell BK12.out 0).trans rfl, (blk_cell BK12.out 1).trans rfl, (blk_cell BK12.out 2).trans rfl, (blk_cell BK12.out 3).trans rfl⟩ (fun hHeld => ?_)
             clear hK K
             refine norm_ (a' := ?_) ?_ ?_
             rotate_left
             ·show Act.put _ (some 96) _ = _
              simp only [Act.put, List.setIfInBounds_toArray, List.set_cons_zero, List.set_cons_succ, i64_w, i32_w]
              rfl
             refine pure_ (i := 10) (N := some 102) (v := ?_) (a' := ?_) #[true, true, true, true, true, true, true, true, false, false, true, false, false, false] rfl rfl (any_of HT_.out (by kernel_rfl)) (fun _ _ _ h => h) (Or.inl ⟨by rfl, ?_⟩) ?_ ?_
             rotate_left
             ·intro w'
              go_simp
              with_reducible rfl
             rotate_left
             ·simp only [Act.put, List.setIfInBounds_toArray, List.set_cons_zero, List.set_cons_succ, i64_w, i32_w]
              rfl
             refine one_ (i := 8) (N := some 100) #[true, true, true, true, true, true, true, true, true, false, true, false, false, false] rfl rfl (one_of HT_.out (by kernel_rfl)) (by decide) (fun K hK => ?_)
             refine Kd.R_lit_step (Kd.int .i64) _ 3 ?hg (N := 100) ?hd (xs := ([(t73.length : Int)] : List Int)) (inner := [.int .i64 (t73.length : Int)]) (ok := fun _ => True) (okp := fun _ => True) ?hr ?hp (fun _ hk => hk) trivial (Below.refl _ _) (Nat.le_refl _) (by simp) ?_; (case hd => rfl); (case hg => rfl); (case hr => first | (go_simp; done) ); (case hp => exact (Reps.one (show Kd.M (Kd.int .i64) _ _ _ (t73.length : Int) [.int .i64 (t73.length : Int)] from rfl) (Reps.none _ _)))
             intro v90 w152 ho153 hb hg_ hnew_
             clear hg_ hnew_
             (rw [← Ny89.out] at ho153)
             replace HO85 := Aside0.mk (Kd.R_below (rM HO85.out) hb)
             replace HO88 := Aside0.mk (Kd.R_below (rM HO88.out) hb)
             have HO91 := Aside0.mk (Kd.R_lower (Kd.R_new' (Kd.R_new' (Kd.R_new' ho153 (Kd.R_lt (rM HO72.out))) (Kd.R_lt (rM HO79.out))) (Kd.R_lt (rM HO82.out))) (below_size (by exact wM HB.out)))
             replace HO72 := Aside0.mk (Kd.R_elder' (rM HO72.out) (Kd.R_base ho153) hb)
             replace HO79 := Aside0.mk (Kd.R_elder' (rM HO79.out) (Kd.R_base ho153) hb)
             replace HO82 := Aside0.mk (Kd.R_elder' (rM HO82.out) (Kd.R_base ho153) hb)
             replace BK11 := Aside0.mk (blk_below (kM BK11.out) hb)
             replace BK12 := Aside0.mk (blk_below (kM BK12.out) hb)
             replace BK13 := Aside0.mk (blk_below (kM BK13.out) hb)
             replace BK76 := Aside0.mk (blk_below (kM BK76.out) hb)
             replace HB := Aside0.mk (below_step (by exact wM HB.out) hb)
             clear hb ho153
             refine hK.out _ _ ⟨(blk_cell BK76.out 0).trans rfl, (blk_cell BK76.out 1).trans rfl, (blk_cell BK76.out 2).trans rfl, (blk_cell BK12.out 0).trans rfl, (blk_cell BK12.out 1).trans rfl, (blk_cell BK12.out 2).trans rfl, (blk_cell BK12.out 3).trans rfl⟩ (fun hHeld => ?_)
             clear hK K
             refine norm_ (a' := ?_) ?_ ?_
             rotate_left
             ·show Act.put _ (some 100) _ = _
              simp only [Act.put, List.setIfInBounds_toArray, List.set_cons_zero, List.set_cons_succ, i64_w, i32_w]
              rfl
             exact norm_ (by simp only [putAll, Act.put, List.setIfInBounds_toArray, List.set_cons_zero, List.set_cons_succ]) (hCont (.slice Ao151 y83.length co151, v87, v90) _ ⟨hHeld, (by (with_reducible repeat (first | apply Kd.R_alloc | apply Kd.R_drewN | apply Kd.R_drew)); exact Kd.R_mono HO72.out (fun _ hk => ⟨hk.1.1, ⟨hk.1.2, hk.2⟩⟩)), (by (with_reducible repeat (first | apply Kd.R_alloc | apply Kd.R_drewN | apply Kd.R_drew)); exact Kd.R_mono HO79.out (fun _ hk => ⟨hk.1.1, ⟨hk.1.2, hk.2⟩⟩)), (by (with_reducible repeat (first | apply Kd.R_alloc | apply Kd.R_drewN | apply Kd.R_drew)); exact Kd.R_mono HO82.out (fun _ hk => ⟨hk.1.1, ⟨hk.1.2, hk.2⟩⟩)), (by (with_reducible repeat (first | apply Kd.R_alloc | apply Kd.R_drewN | apply Kd.R_drew)); exact Kd.R_mono HO85.out (fun _ hk => ⟨hk.2, hk.1⟩)), (rM HO88.out), (by (with_reducible repeat (first | apply Kd.R_alloc | apply Kd.R_drewN | apply Kd.R_drew)); exact Kd.R_mono HO91.out (fun _ hk => ⟨hk.1.1.2, ⟨hk.1.2, hk.2⟩⟩)), (kM BK11.out), (kM BK12.out), (kM BK13.out), (kM BK76.out), (by exact wM HB.out)⟩)
            ·skip
             refine Kd.R_lit_step (Kd.int .i64) _ 3 ?hg (N := 100) ?hd (xs := ([(t73.length : Int)] : List Int)) (inner := [.int .i64 (t73.length : Int)]) (ok := fun _ => True) (okp := fun _ => True) ?hr ?hp (fun _ hk => hk) trivial (Below.refl _ _) (Nat.le_refl _) (by simp) ?_; (case hd => rfl); (case hg => rfl); (case hr => first | (go_simp; done) ); (case hp => exact (Reps.one (show Kd.M (Kd.int .i64) _ _ _ (t73.length : Int) [.int .i64 (t73.length : Int)] from rfl) (Reps.none _ _)))
             intro v90 w150 ho151 hb hg_ hnew_
             clear hg_ hnew_
             (rw [← Ny89.out] at ho151)
             replace HO69 := Aside0.mk (Kd.R_below (rM HO69.out) hb)
             replace HO85 := Aside0.mk (Kd.R_below (rM HO85.out) hb)
             have HO91 := Aside0.mk (Kd.R_lower (Kd.R_new' (Kd.R_new' (Kd.R_new' ho151 (Kd.R_lt (rM HO72.out))) (Kd.R_lt (rM HO79.out))) (Kd.R_lt (rM HO82.out))) (below_size (by exact wM HB.out)))
             replace HO72 := Aside0.mk (Kd.R_elder' (rM HO72.out) (Kd.R_base ho151) hb)
             replace HO79 := Aside0.mk (Kd.R_elder' (rM HO79.out) (Kd.R_base ho151) hb)
             replace HO82 := Aside0.mk (Kd.R_elder' (rM HO82.out) (Kd.R_base ho151) hb)
             replace BK11 := Aside0.mk (blk_below (kM BK11.out) hb)
             replace BK12 := Aside0.mk (blk_below (kM BK12.out) hb)
             replace BK13 := Aside0.mk (blk_below (kM BK13.out) hb)
             replace BK76 := Aside0.mk (blk_below (kM BK76.out) hb)
             replace HB := Aside0.mk (below_step (by exact wM HB.out) hb)
             clear hb ho151
             obtain ⟨Ao153, co153, eo153⟩ := Kd.R_slice HO85.out
             ((injection eo153 with f1_ f2_ f3_; have f4_ := f1_.symm; have f5_ := f3_.symm; clear f1_ f2_ f3_; subst f4_; subst f5_))
             refine hK.out _ _ ⟨(blk_cell BK76.out 0).trans rfl, (blk_cell BK76.out 1).trans rfl, (blk_cell BK76.out 2).trans rfl, (blk_cell BK12.out 0).trans rfl, (blk_cell BK12.out 1).trans rfl, (blk_cell BK12.out 2).trans rfl, (blk_cell BK12.out 3).trans rfl⟩ (fun hHeld => ?_)
             clear hK K
             refine norm_ (a' := ?_) ?_ ?_
             rotate_left
             ·show Act.put _ (some 100) _ = _
              simp only [Act.put, List.setIfInBounds_toArray, List.set_cons_zero, List.set_cons_succ, i64_w, i32_w]
              rfl
             refine one_ (i := 4) (N := some 96) #[true, true, true, true, true, true, true, true, true, false, false, false, false, false] rfl rfl (one_of HT_.out (by kernel_rfl)) (by decide) (fun K hK => ?_)
             refine Kd.R_append_rows_step k48 (w0 := w) w.heap.size (by rfl) (.tmp 93) (.tmp 95) 36 48 (.agg #[(.bool false), (.int .i64 0), (.int .i64 0), (.int .i64 0)]) 32 rfl Try.underlying36 info48 rfl (by decide) (by omega) (.slice Ao133 t67.length co133) t67 y83 _ _ _ (fun k_ => some k_ ≠ (.slice Ao153 y83.length co153 : Value).ownBlock ∧ k_ ≠ gb12) (fun _ => False) rfl rfl ?aO ?aR (fun _ _ h => h) (fun _ h => h.elim) ?aF ?aB ?aS ?aL ?_
             (case aR => exact cM (Kd.R_reads' HO85.out).2.2)
             (case aB => exact (by exact wM HB.out))
             (case aF => exact (fun k_ hk => ⟨Kd.fresh' (Kd.R_lt (rM HO85.out)) k_ hk, Kd.freshB (kM BK12.out) k_ hk⟩))
             (case aO => exact (by (with_reducible repeat (first | apply Kd.R_alloc | apply Kd.R_drewN | apply Kd.R_drew)); exact Kd.R_mono HO69.out (fun _ hk => ⟨hk.2, hk.1⟩)))
             (case aS => exact (below_size (by exact wM HB.out)))
             (case aL => have := LMc125.out; omega)
             intro v87 w152 ho hb hg hat
             rw [← Ny86.out] at ho
             replace BK11 := Aside0.mk (blk_grown (kM BK11.out) hg (Kd.R_ne HO69.out BK11.out (by decide)))
             replace BK12 := Aside0.mk (blk_grown (kM BK12.out) hg (Kd.R_away HO69.out (fun _ hk => hk.1)))
             replace BK13 := Aside0.mk (blk_grown (kM BK13.out) hg (Kd.R_ne HO69.out BK13.out (by decide)))
             replace HO72 := Aside0.mk (Kd.R_over' (rM HO72.out) (Kd.R_typed (rM HO69.out)) (by decide) hg)
             replace BK76 := Aside0.mk (blk_grown (kM BK76.out) hg (Kd.R_ne HO69.out BK76.out (by decide)))
             replace HO79 := Aside0.mk (Kd.R_over' (rM HO79.out) (Kd.R_typed (rM HO69.out)) (by decide) hg)
             replace HO82 := Aside0.mk (Kd.R_over' (rM HO82.out) (Kd.R_typed (rM HO69.out)) (by decide) hg)
             replace HO85 := Aside0.mk (Kd.R_after (ok := (fun k_ => k_ ≠ gb12)) (by (with_reducible repeat (first | apply Kd.R_alloc | apply Kd.R_drewN | apply Kd.R_drew)); exact Kd.R_mono HO85.out (fun _ hk => ⟨hk.2, hk.1.2⟩)) hg hat)
             replace HO91 := Aside0.mk (Kd.R_over' (rM HO91.out) (Kd.R_typed (rM HO69.out)) (by decide) hg)
             replace HB := Aside0.mk (hb)
             have HO88 := Aside0.mk (ho)
             clear HO69
             clear ho hb hg hat
             refine hK.out _ _ ⟨(blk_cell BK76.out 0).trans rfl, (blk_cell BK76.out 1).trans rfl, (blk_cell BK76.out 2).trans rfl, (blk_cell BK12.out 0).trans rfl, (blk_cell BK12.out 1).trans rfl, (blk_cell BK12.out 2).trans rfl, (blk_cell BK12.out 3).trans rfl⟩ (fun hHeld => ?_)
             clear hK K
             refine norm_ (a' := ?_) ?_ ?_
             rotate_left
             ·show Act.put _ (some 96) _ = _
              simp only [Act.put, List.setIfInBounds_toArray, List.set_cons_zero, List.set_cons_succ, i64_w, i32_w]
              rfl
             refine pure_ (i := 10) (N := some 102) (v := ?_) (a' := ?_) #[true, true, true, true, true, true, true, true, true, false, true, false, false, false] rfl rfl (any_of HT_.out (by kernel_rfl)) (fun _ _ _ h => h) (Or.inl ⟨by rfl, ?_⟩) ?_ ?_
             rotate_left
             ·intro w'
              go_simp
              with_reducible rfl
             rotate_left
             ·simp only [Act.put, List.setIfInBounds_toArray, List.set_cons_zero, List.set_cons_succ, i64_w, i32_w]
              rfl
             exact norm_ (by simp only [putAll, Act.put, List.setIfInBounds_toArray, List.set_cons_zero, List.set_cons_succ]) (hCont (.slice Ao153 y83.length co153, v87, v90) _ ⟨hHeld, (by (with_reducible repeat (first | apply Kd.R_alloc | apply Kd.R_drewN | apply Kd.R_drew)); exact Kd.R_mono HO72.out (fun _ hk => ⟨hk.1.1, ⟨hk.1.2, hk.2⟩⟩)), (by (with_reducible repeat (first | apply Kd.R_alloc | apply Kd.R_drewN | apply Kd.R_drew)); exact Kd.R_mono HO79.out (fun _ hk => ⟨hk.1.1, ⟨hk.1.2, hk.2⟩⟩)), (by (with_reducible repeat (first | apply Kd.R_alloc | apply Kd.R_drewN | apply Kd.R_drew)); exact Kd.R_mono HO82.out (fun _ hk => ⟨hk.1.1, ⟨hk.1.2, hk.2⟩⟩)), (by (with_reducible repeat (first | apply Kd.R_alloc | apply Kd.R_drewN | apply Kd.R_drew)); exact Kd.R_mono HO85.out (fun _ hk => ⟨hk.2, hk.1⟩)), (rM HO88.out), (by (with_reducible repeat (first | apply Kd.R_alloc | apply Kd.R_drewN | apply Kd.R_drew)); exact Kd.R_mono HO91.out (fun _ hk => ⟨hk.1.1.2, ⟨hk.1.2, hk.2⟩⟩)), (kM BK11.out), (kM BK12.out), (kM BK13.out), (kM BK76.out), (by exact wM HB.out)⟩)
           ·skip
            refine Kd.R_lit_step (Kd.int .i64) _ 3 ?hg (N := 100) ?hd (xs := ([(t73.length : Int)] : List Int)) (inner := [.int .i64 (t73.length : Int)]) (ok := fun _ => True) (okp := fun _ => True) ?hr ?hp (fun _ hk => hk) trivial (Below.refl _ _) (Nat.le_refl _) (by simp) ?_; (case hd => rfl); (case hg => rfl); (case hr => first | (go_simp; done) ); (case hp => exact (Reps.one (show Kd.M (Kd.int .i64) _ _ _ (t73.length : Int) [.int .i64 (t73.length : Int)] from rfl) (Reps.none _ _)))
            intro v90 w148 ho149 hb hg_ hnew_
            clear hg_ hnew_
            (rw [← Ny89.out] at ho149)
            replace HO69 := Aside0.mk (Kd.R_below (rM HO69.out) hb)
            have HO91 := Aside0.mk (Kd.R_lower (Kd.R_new' (Kd.R_new' (Kd.R_new' ho149 (Kd.R_lt (rM HO72.out))) (Kd.R_lt (rM HO79.out))) (Kd.R_lt (rM HO82.out))) (below_size (by exact wM HB.out)))
            replace HO72 := Aside0.mk (Kd.R_elder' (rM HO72.out) (Kd.R_base ho149) hb)
            replace HO79 := Aside0.mk (Kd.R_elder' (rM HO79.out) (Kd.R_base ho149) hb)
            replace HO82 := Aside0.mk (Kd.R_elder' (rM HO82.out) (Kd.R_base ho149) hb)
            replace BK11 := Aside0.mk (blk_below (kM BK11.out) hb)
            replace BK12 := Aside0.mk (blk_below (kM BK12.out) hb)
            replace BK13 := Aside0.mk (blk_below (kM BK13.out) hb)
            replace BK76 := Aside0.mk (blk_below (kM BK76.out) hb)
            replace HB := Aside0.mk (below_step (by exact wM HB.out) hb)
            clear hb ho149
            refine hK.out _ _ ⟨(blk_cell BK76.out 0).trans rfl, (blk_cell BK76.out 1).trans rfl, (blk_cell BK76.out 2).trans rfl, (blk_cell BK12.out 0).trans rfl, (blk_cell BK12.out 1).trans rfl, (blk_cell BK12.out 2).trans rfl, (blk_cell BK12.out 3).trans rfl⟩ (fun hHeld => ?_)
            clear hK K
            refine norm_ (a' := ?_) ?_ ?_
            rotate_left
            ·show Act.put _ (some 100) _ = _
             simp only [Act.put, List.setIfInBounds_toArray, List.set_cons_zero, List.set_cons_succ, i64_w, i32_w]
             rfl
            refine one_ (i := 3) (N := some 95) #[true, true, true, true, false, true, true, true, true, false, false, false, false, false] rfl rfl (one_of HT_.out (by kernel_rfl)) (by decide) (fun K hK => ?_)
            refine Kd.R_lit_step k48 _ 48 ?hg (N := 95) ?hd (xs := ([(⟨a1_0, a1_1, a1_2, a1_3⟩ : S48)] : List (S48))) (inner := [.bool a1_0, .int .i64 a1_1, .int .i64 a1_2, .int .i64 a1_3]) (ok := fun _ => True) (okp := fun _ => True) ?hr ?hp (fun _ hk => hk) trivial (Below.refl _ _) (Nat.le_refl _) (by simp) ?_; (case hd => rfl); (case hg => rfl); (case hr => first | (go_simp; done) ); (case hp => exact (Reps.c4 (show Kd.M k48 _ _ _ (⟨a1_0, a1_1, a1_2, a1_3⟩ : S48) [.bool a1_0, .int .i64 a1_1, .int .i64 a1_2, .int .i64 a1_3] from (k48_mkM _ _ _ (⟨a1_0, a1_1, a1_2, a1_3⟩ : S48) )) (Reps.none _ _)))
            intro v84 w150 ho151 hb hg_ hnew_
            clear hg_ hnew_
            (rw [← Ny83.out] at ho151)
            replace HO72 := Aside0.mk (Kd.R_below (rM HO72.out) hb)
            replace HO79 := Aside0.mk (Kd.R_below (rM HO79.out) hb)
            replace HO82 := Aside0.mk (Kd.R_below (rM HO82.out) hb)
            replace HO91 := Aside0.mk (Kd.R_below (rM HO91.out) hb)
            have HO85 := Aside0.mk (Kd.R_lower (Kd.R_newB (Kd.R_new' ho151 (Kd.R_lt (rM HO69.out))) (kM BK12.out)) (below_size (by exact wM HB.out)))
            replace HO69 := Aside0.mk (Kd.R_elder' (rM HO69.out) (Kd.R_base ho151) hb)
            replace BK11 := Aside0.mk (blk_below (kM BK11.out) hb)
            replace BK12 := Aside0.mk (blk_below (kM BK12.out) hb)
            replace BK13 := Aside0.mk (blk_below (kM BK13.out) hb)
            replace BK76 := Aside0.mk (blk_below (kM BK76.out) hb)
            replace HB := Aside0.mk (below_step (by exact wM HB.out) hb)
            clear hb ho151
            obtain ⟨Ao153, co153, eo153⟩ := Kd.R_slice HO85.out
            (subst eo153)
            refine hK.out _ _ ⟨(blk_cell BK76.out 0).trans rfl, (blk_cell BK76.out 1).trans rfl, (blk_cell BK76.out 2).trans rfl, (blk_cell BK12.out 0).trans rfl, (blk_cell BK12.out 1).trans rfl, (blk_cell BK12.out 2).trans rfl, (blk_cell BK12.out 3).trans rfl⟩ (fun hHeld => ?_)
            clear hK K
            refine norm_ (a' := ?_) ?_ ?_
            rotate_left
            ·show Act.put _ (some 95) _ = _
             simp only [Act.put, List.setIfInBounds_toArray, List.set_cons_zero, List.set_cons_succ, i64_w, i32_w]
             rfl
            refine one_ (i := 4) (N := some 96) #[true, true, true, true, true, true, true, true, true, false, false, false, false, false] rfl rfl (one_of HT_.out (by kernel_rfl)) (by decide) (fun K hK => ?_)
            refine Kd.R_append_rows_step k48 (w0 := w) w.heap.size (by rfl) (.tmp 93) (.tmp 95) 36 48 (.agg #[(.bool false), (.int .i64 0), (.int .i64 0), (.int .i64 0)]) 32 rfl Try.underlying36 info48 rfl (by decide) (by omega) (.slice Ao133 t67.length co133) t67 y83 _ _ _ (fun k_ => some k_ ≠ (.slice Ao153 y83.length co153 : Value).ownBlock ∧ k_ ≠ gb12) (fun _ => False) rfl rfl ?aO ?aR (fun _ _ h => h) (fun _ h => h.elim) ?aF ?aB ?aS ?aL ?_
            (case aR => exact cM (Kd.R_reads' HO85.out).2.2)
            (case aB => exact (by exact wM HB.out))
            (case aF => exact (fun k_ hk => ⟨Kd.fresh' (Kd.R_lt (rM HO85.out)) k_ hk, Kd.freshB (kM BK12.out) k_ hk⟩))
            (case aO => exact (by (with_reducible repeat (first | apply Kd.R_alloc | apply Kd.R_drewN | apply Kd.R_drew)); exact Kd.R_mono HO69.out (fun _ hk => ⟨hk.2, hk.1⟩)))
            (case aS => exact (below_size (by exact wM HB.out)))
            (case aL => have := LMc125.out; omega)
            intro v87 w152 ho hb hg hat
            rw [← Ny86.out] at ho
            replace BK11 := Aside0.mk (blk_grown (kM BK11.out) hg (Kd.R_ne HO69.out BK11.out (by decide)))
            replace BK12 := Aside0.mk (blk_grown (kM BK12.out) hg (Kd.R_away HO69.out (fun _ hk => hk.1)))
            replace BK13 := Aside0.mk (blk_grown (kM BK13.out) hg (Kd.R_ne HO69.out BK13.out (by decide)))
            replace HO72 := Aside0.mk (Kd.R_over' (rM HO72.out) (Kd.R_typed (rM HO69.out)) (by decide) hg)
            replace BK76 := Aside0.mk (blk_grown (kM BK76.out) hg (Kd.R_ne HO69.out BK76.out (by decide)))
            replace HO79 := Aside0.mk (Kd.R_over' (rM HO79.out) (Kd.R_typed (rM HO69.out)) (by decide) hg)
            replace HO82 := Aside0.mk (Kd.R_over' (rM HO82.out) (Kd.R_typed (rM HO69.out)) (by decide) hg)
            replace HO91 := Aside0.mk (Kd.R_over' (rM HO91.out) (Kd.R_typed (rM HO69.out)) (by decide) hg)
            replace HO85 := Aside0.mk (Kd.R_after (ok := (fun k_ => k_ ≠ gb12)) (by (with_reducible repeat (first | apply Kd.R_alloc | apply Kd.R_drewN | apply Kd.R_drew)); exact Kd.R_mono HO85.out (fun _ hk => ⟨hk.2, hk.1.2⟩)) hg hat)
            replace HB := Aside0.mk (hb)
            have HO88 := Aside0.mk (ho)
            clear HO69
            clear ho hb hg hat
            refine hK.out _ _ ⟨(blk_cell BK76.out 0).trans rfl, (blk_cell BK76.out 1).trans rfl, (blk_cell BK76.out 2).trans rfl, (blk_cell BK12.out 0).trans rfl, (blk_cell BK12.out 1).trans rfl, (blk_cell BK12.out 2).trans rfl, (blk_cell BK12.out 3).trans rfl⟩ (fun hHeld => ?_)
            clear hK K
            refine norm_ (a' := ?_) ?_ ?_
            rotate_left
            ·show Act.put _ (some 96) _ = _
             simp only [Act.put, List.setIfInBounds_toArray, List.set_cons_zero, List.set_cons_succ, i64_w, i32_w]
             rfl
            refine pure_ (i := 10) (N := some 102) (v := ?_) (a' := ?_) #[true, true, true, true, true, true, true, true, true, false, true, false, false, false] rfl rfl (any_of HT_.out (by kernel_rfl)) (fun _ _ _ h => h) (Or.inl ⟨by rfl, ?_⟩) ?_ ?_
            rotate_left
            ·intro w'
             go_simp
             with_reducible rfl
            rotate_left
            ·simp only [Act.put, List.setIfInBounds_toArray, List.set_cons_zero, List.set_cons_succ, i64_w, i32_w]
             rfl
            exact norm_ (by simp only [putAll, Act.put, List.setIfInBounds_toArray, List.set_cons_zero, List.set_cons_succ]) (hCont (.slice Ao153 y83.length co153, v87, v90) _ ⟨hHeld, (by (with_reducible repeat (first | apply Kd.R_alloc | apply Kd.R_drewN | apply Kd.R_drew)); exact Kd.R_mono HO72.out (fun _ hk => ⟨hk.1.1, ⟨hk.1.2, hk.2⟩⟩)), (by (with_reducible repeat (first | apply Kd.R_alloc | apply Kd.R_drewN | apply Kd.R_drew)); exact Kd.R_mono HO79.out (fun _ hk => ⟨hk.1.1, ⟨hk.1.2, hk.2⟩⟩)), (by (with_reducible repeat (first | apply Kd.R_alloc | apply Kd.R_drewN | apply Kd.R_drew)); exact Kd.R_mono HO82.out (fun _ hk => ⟨hk.1.1, ⟨hk.1.2, hk.2⟩⟩)), (by (with_reducible repeat (first | apply Kd.R_alloc | apply Kd.R_drewN | apply Kd.R_drew)); exact Kd.R_mono HO85.out (fun _ hk => ⟨hk.2, hk.1⟩)), (rM HO88.out), (by (with_reducible repeat (first | apply Kd.R_alloc | apply Kd.R_drewN | apply Kd.R_drew)); exact Kd.R_mono HO91.out (fun _ hk => ⟨hk.1.1.2, ⟨hk.1.2, hk.2⟩⟩)), (kM BK11.out), (kM BK12.out), (kM BK13.out), (kM BK76.out), (by exact wM HB.out)⟩)
          rintro ⟨v84, v87, v90⟩ w154 ⟨hS_, h0_, h1_, h2_, h3_, h4_, h5_, h6_, h7_, h8_, h9_, h10_⟩
          have n0_ : Aside0 (Kd.R (Kd.int .i64) 3 w154 w.heap.size (fun k_ => some k_ ≠ (.slice Ao143 y77.length co143 : Value).ownBlock ∧ some k_ ≠ (.slice Ao144 y80.length co144 : Value).ownBlock ∧ some k_ ≠ (v90 : Value).ownBlock) (.slice Ao138 t70.length co138) t70) := ⟨h0_⟩
          have n1_ : Aside0 (Kd.R (Kd.int .i64) 3 w154 w.heap.size (fun k_ => some k_ ≠ (.slice Ao138 t70.length co138 : Value).ownBlock ∧ some k_ ≠ (.slice Ao144 y80.length co144 : Value).ownBlock ∧ some k_ ≠ (v90 : Value).ownBlock) (.slice Ao143 y77.length co143) y77) := ⟨h1_⟩
          have n2_ : Aside0 (Kd.R (Kd.int .i64) 3 w154 w.heap.size (fun k_ => some k_ ≠ (.slice Ao138 t70.length co138 : Value).ownBlock ∧ some k_ ≠ (.slice Ao143 y77.length co143 : Value).ownBlock ∧ some k_ ≠ (v90 : Value).ownBlock) (.slice Ao144 y80.length co144) y80) := ⟨h2_⟩
          have n3_ : Aside0 (Kd.R k48 48 w154 w.heap.size (fun k_ => some k_ ≠ (v87 : Value).ownBlock ∧ k_ ≠ gb12) v84 y83) := ⟨h3_⟩
          have n4_ : Aside0 (Kd.R k48 48 w154 w.heap.size (fun k_ => some k_ ≠ (v84 : Value).ownBlock ∧ k_ ≠ gb12) v87 y86) := ⟨h4_⟩
          have n5_ : Aside0 (Kd.R (Kd.int .i64) 3 w154 w.heap.size (fun k_ => some k_ ≠ (.slice Ao138 t70.length co138 : Value).ownBlock ∧ some k_ ≠ (.slice Ao143 y77.length co143 : Value).ownBlock ∧ some k_ ≠ (.slice Ao144 y80.length co144 : Value).ownBlock) v90 y89) := ⟨h5_⟩
          have n6_ : Aside0 (w154.heap[gb11]? = some (.cells #[.slice A0_0 l0_0.length c0_0, .slice A0_1 l0_1.length c0_1, .slice A0_2 l0_2.length c0_2] 38 (0, 0))) := ⟨h6_⟩
          have n7_ : Aside0 (w154.heap[gb12]? = some (.cells #[.bool a1_0, .int .i64 a1_1, .int .i64 a1_2, .int .i64 a1_3] 48 (0, 0))) := ⟨h7_⟩
          have n8_ : Aside0 (w154.heap[gb13]? = some (.cells #[.slice none 0 0, .slice none 0 0, .slice none 0 0] 38 (0, 0))) := ⟨h8_⟩
          have n9_ : Aside0 (w154.heap[gb76]? = some (.cells #[.slice Ao133 t67.length co133, .slice Ao138 t70.length co138, .slice Ao144 y80.length co144] 38 (0, 0))) := ⟨h9_⟩
          have n10_ : Aside0 (Below w.heap.size w w154) := ⟨h10_⟩
          clear HO69
          clear HO72
          clear HO79
          clear HO82
          clear BK11
          clear BK12
          clear BK13
          clear BK76
          clear HB
          clear h0_ h1_ h2_ h3_ h4_ h5_ h6_ h7_ h8_ h9_ h10_
          have HO72 := n0_
          have HO79 := n1_
          have HO82 := n2_
          have HO85 := n3_
          have HO88 := n4_
          have HO91 := n5_
          have BK11 := n6_
          have BK12 := n7_
          have BK13 := n8_
          have BK76 := n9_
          have HB := n10_
          clear n0_ n1_ n2_ n3_ n4_ n5_ n6_ n7_ n8_ n9_ n10_
          have hHeld : w154.cell? ⟨gb76, 0, none⟩ = some (.slice Ao133 t67.length co133) ∧ w154.cell? ⟨gb76, 1, none⟩ = some (.slice Ao138 t70.length co138) ∧ w154.cell? ⟨gb76, 2, none⟩ = some (.slice Ao144 y80.length co144) ∧ w154.cell? ⟨gb12, 0, none⟩ = some (.bool a1_0) ∧ w154.cell? ⟨gb12, 1, none⟩ = some (.int .i64 a1_1) ∧ w154.cell? ⟨gb12, 2, none⟩ = some (.int .i64 a1_2) ∧ w154.cell? ⟨gb12, 3, none⟩ = some (.int .i64 a1_3) := hS_
          obtain ⟨Ao156, co156, eo156⟩ := Kd.R_slice HO91.out
          (subst eo156)
          refine norm_ (a' := ?_) ?_ ?_
          rotate_left
          ·simp only [putAll, Act.put, List.setIfInBounds_toArray, List.set_cons_zero, List.set_cons_succ]
           rfl
          refine one_ (i := 9) (N := some 101) #[true, true, true, true, true, true, true, true, true, true, true, false, false, false] rfl rfl (one_of HT_.out (by kernel_rfl)) (by decide) (fun K hK => ?_)
          refine Kd.R_append_rows_step (Kd.int .i64) (w0 := w) w.heap.size (by rfl) (.tmp 98) (.tmp 100) 22 3 (.int .i64 0) 8 rfl Try.underlying22 info3 rfl (by decide) (by omega) (.slice Ao138 t70.length co138) t70 y89 _ _ _ (fun k_ => some k_ ≠ (.slice Ao143 y77.length co143 : Value).ownBlock ∧ some k_ ≠ (.slice Ao144 y80.length co144 : Value).ownBlock ∧ some k_ ≠ (.slice Ao156 y89.length co156 : Value).ownBlock) (fun _ => False) rfl rfl ?aO ?aR (fun _ _ h => h) (fun _ h => h.elim) ?aF ?aB ?aS ?aL ?_
          (case aR => exact cM (Kd.R_reads' HO91.out).2.2)
          (case aB => exact (by exact wM HB.out))
          (case aF => exact (fun k_ hk => ⟨Kd.fresh' (Kd.R_lt (rM HO79.out)) k_ hk, Kd.fresh' (Kd.R_lt (rM HO82.out)) k_ hk, Kd.fresh' (Kd.R_lt (rM HO91.out)) k_ hk⟩))
          (case aO => exact (rM HO72.out))
          (case aS => exact (below_size (by exact wM HB.out)))
          (case aL => have := LMc126.out; omega)
          intro v93 w155 ho hb hg hat
          rw [← Ny92.out] at ho
          replace BK11 := Aside0.mk (blk_grown (kM BK11.out) hg (Kd.R_ne HO72.out BK11.out (by decide)))
          replace BK12 := Aside0.mk (blk_grown (kM BK12.out) hg (Kd.R_ne HO72.out BK12.out (by decide)))
          replace BK13 := Aside0.mk (blk_grown (kM BK13.out) hg (Kd.R_ne HO72.out BK13.out (by decide)))
          replace BK76 := Aside0.mk (blk_grown (kM BK76.out) hg (Kd.R_ne HO72.out BK76.out (by decide)))
          replace HO79 := Aside0.mk (Kd.R_after (ok := (fun k_ => some k_ ≠ (.slice Ao144 y80.length co144 : Value).ownBlock ∧ some k_ ≠ (.slice Ao156 y89.length co156 : Value).ownBlock)) (by (with_reducible repeat (first | apply Kd.R_alloc | apply Kd.R_drewN | apply Kd.R_drew)); exact Kd.R_mono HO79.out (fun _ hk => ⟨⟨hk.2.1, hk.2.2⟩, hk.1⟩)) hg hat)
          replace HO82 := Aside0.mk (Kd.R_after (ok := (fun k_ => some k_ ≠ (.slice Ao143 y77.length co143 : Value).ownBlock ∧ some k_ ≠ (.slice Ao156 y89.length co156 : Value).ownBlock)) (by (with_reducible repeat (first | apply Kd.R_alloc | apply Kd.R_drewN | apply Kd.R_drew)); exact Kd.R_mono HO82.out (fun _ hk => ⟨⟨hk.2.1, hk.2.2⟩, hk.1⟩)) hg hat)
          replace HO85 := Aside0.mk (Kd.R_over' (rM HO85.out) (Kd.R_typed (rM HO72.out)) (by decide) hg)
          replace HO88 := Aside0.mk (Kd.R_over' (rM HO88.out) (Kd.R_typed (rM HO72.out)) (by decide) hg)
          replace HO91 := Aside0.mk (Kd.R_after (ok := (fun k_ => some k_ ≠ (.slice Ao143 y77.length co143 : Value).ownBlock ∧ some k_ ≠ (.slice Ao144 y80.length co144 : Value).ownBlock)) (by (with_reducible repeat (first | apply Kd.R_alloc | apply Kd.R_drewN | apply Kd.R_drew)); exact Kd.R_mono HO91.out (fun _ hk => ⟨⟨hk.2.1, hk.2.2⟩, hk.1⟩)) hg hat)
          replace HB := Aside0.mk (hb)
          have HO94 := Aside0.mk (ho)
          clear HO72
          clear ho hb hg hat
          obtain ⟨Ao157, co157, eo157⟩ := Kd.R_slice HO88.out
          (subst eo157)
          obtain ⟨Ao159, co159, eo159⟩ := Kd.R_slice HO94.out
          (subst eo159)
          refine hK.out _ _ ⟨(blk_cell BK76.out 0).trans rfl, (blk_cell BK76.out 1).trans rfl, (blk_cell BK76.out 2).trans rfl, (blk_cell BK12.out 0).trans rfl, (blk_cell BK12.out 1).trans rfl, (blk_cell BK12.out 2).trans rfl, (blk_cell BK12.out 3).trans rfl⟩ (fun hHeld => ?_)
          clear hK K
          refine norm_ (a' := ?_) ?_ ?_
          rotate_left
          ·show Act.put _ (some 101) _ = _
           simp only [Act.put, List.setIfInBounds_toArray, List.set_cons_zero, List.set_cons_succ, i64_w, i32_w]
           rfl
          refine last_ (i := 11) (N := none) #[true, true, true, true, true, true, true, true, true, true, true, true, false, false] rfl rfl (one_of HT_.out (by kernel_rfl)) (by decide) (fun K hK => ?_)
          have hs158 : w155.cell? ⟨gb76, 0, none⟩ = some (.slice Ao133 t67.length co133) := (blk_cell BK76.out 0).trans rfl
          have hfs158 := blk_frozen BK76.out 0
          have hns158_0 := NB11_76.out
          have hns158_1 := NB12_76.out
          have hns158_2 := NB13_76.out
          have hms158_0 := NB76_11.out
          have hms158_1 := NB76_12.out
          have hms158_2 := NB76_13.out
          refine skip_ (w1 := ?_) (by rfl) rfl ?_ ?_
          rotate_left
          ·go_simp
           rfl
          refine hK.out _ _ ?_
          clear hK K
          refine pure_ (i := 12) (N := some 103) (v := ?_) (a' := ?_) #[true, true, true, true, true, true, true, true, true, true, true, true, true, false] rfl rfl (any_of HT_.out (by kernel_rfl)) (fun _ _ _ h => h) (Or.inl ⟨by rfl, ?_⟩) ?_ ?_
          rotate_left
          ·intro w'
           go_simp
           with_reducible rfl
          rotate_left
          ·simp only [Act.put, List.setIfInBounds_toArray, List.set_cons_zero, List.set_cons_succ, i64_w, i32_w]
           rfl
          refine last_ (i := 13) (N := none) #[true, true, true, true, true, true, true, true, true, true, true, true, true, true] rfl rfl (one_of HT_.out (by kernel_rfl)) (by decide) (fun K hK => ?_)
          have hs160 : w155.cell? ⟨gb76, 1, none⟩ = some (.slice Ao138 t70.length co138) := (blk_cell BK76.out 1).trans rfl
          have hfs160 := blk_frozen BK76.out 1
          have hns160_0 := NB11_76.out
          have hns160_1 := NB12_76.out
          have hns160_2 := NB13_76.out
          have hms160_0 := NB76_11.out
          have hms160_1 := NB76_12.out
          have hms160_2 := NB76_13.out
          refine skip_ (w1 := ?_) (by rfl) rfl ?_ ?_
          rotate_left
          ·go_simp
           rfl
          refine hK.out _ _ ?_
          clear hK K
          refine done_ (done_of HT_.out (by kernel_rfl)) ?_
          try go_wp2
          have n0_ : Aside0 (Kd.R (Kd.int .i64) 3 ((w155.setCell ⟨gb76, 0, none⟩ (.slice Ao157 y86.length co157)).setCell ⟨gb76, 1, none⟩ (.slice Ao159 y92.length co159)) w.heap.size (fun k_ => some k_ ≠ (.slice Ao144 y80.length co144 : Value).ownBlock ∧ some k_ ≠ (.slice Ao156 y89.length co156 : Value).ownBlock ∧ some k_ ≠ (.slice Ao159 y92.length co159 : Value).ownBlock) (.slice Ao143 y77.length co143) y77) := ⟨by (with_reducible repeat (first | apply Kd.R_alloc | apply Kd.R_drewN | apply Kd.R_drew)); exact Kd.R_mono (Kd.R_far (p := ⟨gb76, 1, none⟩) (Kd.R_far (p := ⟨gb76, 0, none⟩) (Kd.R_types HO79.out BK76.out (by decide)) (fun _ hk => hk.2) (.slice Ao157 y86.length co157)) (fun _ hk => hk.2) (.slice Ao159 y92.length co159)) (fun _ hk => ⟨hk.1.1.1, ⟨hk.1.1.2, hk.1.2⟩⟩)⟩
          have n1_ : Aside0 (Kd.R (Kd.int .i64) 3 ((w155.setCell ⟨gb76, 0, none⟩ (.slice Ao157 y86.length co157)).setCell ⟨gb76, 1, none⟩ (.slice Ao159 y92.length co159)) w.heap.size (fun k_ => some k_ ≠ (.slice Ao143 y77.length co143 : Value).ownBlock ∧ some k_ ≠ (.slice Ao156 y89.length co156 : Value).ownBlock ∧ some k_ ≠ (.slice Ao159 y92.length co159 : Value).ownBlock) (.slice Ao144 y80.length co144) y80) := ⟨by (with_reducible repeat (first | apply Kd.R_alloc | apply Kd.R_drewN | apply Kd.R_drew)); exact Kd.R_mono (Kd.R_far (p := ⟨gb76, 1, none⟩) (Kd.R_far (p := ⟨gb76, 0, none⟩) (Kd.R_types HO82.out BK76.out (by decide)) (fun _ hk => hk.2) (.slice Ao157 y86.length co157)) (fun _ hk => hk.2) (.slice Ao159 y92.length co159)) (fun _ hk => ⟨hk.1.1.1, ⟨hk.1.1.2, hk.1.2⟩⟩)⟩
          have n2_ : Aside0 (Kd.R k48 48 ((w155.setCell ⟨gb76, 0, none⟩ (.slice Ao157 y86.length co157)).setCell ⟨gb76, 1, none⟩ (.slice Ao159 y92.length co159)) w.heap.size (fun k_ => some k_ ≠ (.slice Ao157 y86.length co157 : Value).ownBlock ∧ k_ ≠ gb12) v84 y83) := ⟨by (with_reducible repeat (first | apply Kd.R_alloc | apply Kd.R_drewN | apply Kd.R_drew)); exact Kd.R_mono (Kd.R_far (p := ⟨gb76, 1, none⟩) (Kd.R_far (p := ⟨gb76, 0, none⟩) (Kd.R_types HO85.out BK76.out (by decide)) (fun _ hk => hk.2) (.slice Ao157 y86.length co157)) (fun _ hk => hk.2) (.slice Ao159 y92.length co159)) (fun _ hk => ⟨hk.1.1, hk.1.2⟩)⟩
          have n3_ : Aside0 (Kd.R k48 48 ((w155.setCell ⟨gb76, 0, none⟩ (.slice Ao157 y86.length co157)).setCell ⟨gb76, 1, none⟩ (.slice Ao159 y92.length co159)) w.heap.size (fun k_ => some k_ ≠ (v84 : Value).ownBlock ∧ k_ ≠ gb12) (.slice Ao157 y86.length co157) y86) := ⟨by (with_reducible repeat (first | apply Kd.R_alloc | apply Kd.R_drewN | apply Kd.R_drew)); exact Kd.R_mono (Kd.R_far (p := ⟨gb76, 1, none⟩) (Kd.R_far (p := ⟨gb76, 0, none⟩) (Kd.R_types HO88.out BK76.out (by decide)) (fun _ hk => hk.2) (.slice Ao157 y86.length co157)) (fun _ hk => hk.2) (.slice Ao159 y92.length co159)) (fun _ hk => ⟨hk.1.1, hk.1.2⟩)⟩
          have n4_ : Aside0 (Kd.R (Kd.int .i64) 3 ((w155.setCell ⟨gb76, 0, none⟩ (.slice Ao157 y86.length co157)).setCell ⟨gb76, 1, none⟩ (.slice Ao159 y92.length co159)) w.heap.size (fun k_ => some k_ ≠ (.slice Ao143 y77.length co143 : Value).ownBlock ∧ some k_ ≠ (.slice Ao144 y80.length co144 : Value).ownBlock ∧ some k_ ≠ (.slice Ao159 y92.length co159 : Value).ownBlock) (.slice Ao156 y89.length co156) y89) := ⟨by (with_reducible repeat (first | apply Kd.R_alloc | apply Kd.R_drewN | apply Kd.R_drew)); exact Kd.R_mono (Kd.R_far (p := ⟨gb76, 1, none⟩) (Kd.R_far (p := ⟨gb76, 0, none⟩) (Kd.R_types HO91.out BK76.out (by decide)) (fun _ hk => hk.2) (.slice Ao157 y86.length co157)) (fun _ hk => hk.2) (.slice Ao159 y92.length co159)) (fun _ hk => ⟨hk.1.1.1, ⟨hk.1.1.2, hk.1.2⟩⟩)⟩
          have n5_ : Aside0 (Kd.R (Kd.int .i64) 3 ((w155.setCell ⟨gb76, 0, none⟩ (.slice Ao157 y86.length co157)).setCell ⟨gb76, 1, none⟩ (.slice Ao159 y92.length co159)) w.heap.size (fun k_ => some k_ ≠ (.slice Ao143 y77.length co143 : Value).ownBlock ∧ some k_ ≠ (.slice Ao144 y80.length co144 : Value).ownBlock ∧ some k_ ≠ (.slice Ao156 y89.length co156 : Value).ownBlock) (.slice Ao159 y92.length co159) y92) := ⟨by (with_reducible repeat (first | apply Kd.R_alloc | apply Kd.R_drewN | apply Kd.R_drew)); exact Kd.R_mono (Kd.R_far (p := ⟨gb76, 1, none⟩) (Kd.R_far (p := ⟨gb76, 0, none⟩) (Kd.R_types HO94.out BK76.out (by decide)) (fun _ hk => hk.2) (.slice Ao157 y86.length co157)) (fun _ hk => hk.2) (.slice Ao159 y92.length co159)) (fun _ hk => ⟨hk.1.1, ⟨hk.1.2.1, hk.1.2.2⟩⟩)⟩
          have n6_ : Aside0 (((w155.setCell ⟨gb76, 0, none⟩ (.slice Ao157 y86.length co157)).setCell ⟨gb76, 1, none⟩ (.slice Ao159 y92.length co159)).heap[gb11]? = some (.cells #[.slice A0_0 l0_0.length c0_0, .slice A0_1 l0_1.length c0_1, .slice A0_2 l0_2.length c0_2] 38 (0, 0))) := ⟨by (with_reducible repeat (first | refine blk_drewN ?_ _ | refine blk_drew ?_ | refine blk_alloc ?_ _)); refine blk_far ?_ NB11_76.out _; (with_reducible repeat (first | refine blk_drewN ?_ _ | refine blk_drew ?_ | refine blk_alloc ?_ _)); refine blk_far ?_ NB11_76.out _; (with_reducible repeat (first | refine blk_drewN ?_ _ | refine blk_drew ?_ | refine blk_alloc ?_ _)); exact BK11.out⟩
          have n7_ : Aside0 (((w155.setCell ⟨gb76, 0, none⟩ (.slice Ao157 y86.length co157)).setCell ⟨gb76, 1, none⟩ (.slice Ao159 y92.length co159)).heap[gb12]? = some (.cells #[.bool a1_0, .int .i64 a1_1, .int .i64 a1_2, .int .i64 a1_3] 48 (0, 0))) := ⟨by (with_reducible repeat (first | refine blk_drewN ?_ _ | refine blk_drew ?_ | refine blk_alloc ?_ _)); refine blk_far ?_ NB12_76.out _; (with_reducible repeat (first | refine blk_drewN ?_ _ | refine blk_drew ?_ | refine blk_alloc ?_ _)); refine blk_far ?_ NB12_76.out _; (with_reducible repeat (first | refine blk_drewN ?_ _ | refine blk_drew ?_ | refine blk_alloc ?_ _)); exact BK12.out⟩
          have n8_ : Aside0 (((w155.setCell ⟨gb76, 0, none⟩ (.slice Ao157 y86.length co157)).setCell ⟨gb76, 1, none⟩ (.slice Ao159 y92.length co159)).heap[gb13]? = some (.cells #[.slice none 0 0, .slice none 0 0, .slice none 0 0] 38 (0, 0))) := ⟨by (with_reducible repeat (first | refine blk_drewN ?_ _ | refine blk_drew ?_ | refine blk_alloc ?_ _)); refine blk_far ?_ NB13_76.out _; (with_reducible repeat (first | refine blk_drewN ?_ _ | refine blk_drew ?_ | refine blk_alloc ?_ _)); refine blk_far ?_ NB13_76.out _; (with_reducible repeat (first | refine blk_drewN ?_ _ | refine blk_drew ?_ | refine blk_alloc ?_ _)); exact BK13.out⟩
          have n9_ : Aside0 (((w155.setCell ⟨gb76, 0, none⟩ (.slice Ao157 y86.length co157)).setCell ⟨gb76, 1, none⟩ (.slice Ao159 y92.length co159)).heap[gb76]? = some (.cells #[.slice Ao157 y86.length co157, .slice Ao159 y92.length co159, .slice Ao144 y80.length co144] 38 (0, 0))) := ⟨by (with_reducible repeat (first | refine blk_drewN ?_ _ | refine blk_drew ?_ | refine blk_alloc ?_ _)); refine blk_put (cs := #[.slice Ao157 y86.length co157, .slice Ao138 t70.length co138, .slice Ao144 y80.length co144]) ?_ 1 _ rfl; (with_reducible repeat (first | refine blk_drewN ?_ _ | refine blk_drew ?_ | refine blk_alloc ?_ _)); refine blk_put (cs := #[.slice Ao133 t67.length co133, .slice Ao138 t70.length co138, .slice Ao144 y80.length co144]) ?_ 0 _ rfl; (with_reducible repeat (first | refine blk_drewN ?_ _ | refine blk_drew ?_ | refine blk_alloc ?_ _)); exact BK76.out⟩
          have n10_ : Aside0 (Below w.heap.size w ((w155.setCell ⟨gb76, 0, none⟩ (.slice Ao157 y86.length co157)).setCell ⟨gb76, 1, none⟩ (.slice Ao159 y92.length co159))) := ⟨by repeat ((with_reducible first | exact HB.out | refine below_set ?_ GE76.out))⟩
          (try clear HO79)
          (try clear HO82)
          (try clear HO85)
          (try clear HO88)
          (try clear HO91)
          (try clear HO94)
          (try clear BK11)
          (try clear BK12)
          (try clear BK13)
          (try clear BK76)
          (try clear HB)
          generalize ((w155.setCell ⟨gb76, 0, none⟩ (.slice Ao157 y86.length co157)).setCell ⟨gb76, 1, none⟩ (.slice Ao159 y92.length co159)) = w161 at n0_ n1_ n2_ n3_ n4_ n5_ n6_ n7_ n8_ n9_ n10_ ⊢
          have HO79 := n0_
          have HO82 := n1_
          have HO85 := n2_
          have HO88 := n3_
          have HO91 := n4_
          have HO94 := n5_
          have BK11 := n6_
          have BK12 := n7_
          have BK13 := n8_
          have BK76 := n9_
          have HB := n10_
          clear n0_ n1_ n2_ n3_ n4_ n5_ n6_ n7_ n8_ n9_ n10_
          replace HO79 := Aside0.mk (Kd.R_drew HO79.out)
          replace HO82 := Aside0.mk (Kd.R_drew HO82.out)
          replace HO85 := Aside0.mk (Kd.R_drew HO85.out)
          replace HO88 := Aside0.mk (Kd.R_drew HO88.out)
          replace HO91 := Aside0.mk (Kd.R_drew HO91.out)
          replace HO94 := Aside0.mk (Kd.R_drew HO94.out)
          replace BK11 := Aside0.mk (blk_drew BK11.out)
          replace BK12 := Aside0.mk (blk_drew BK12.out)
          replace BK13 := Aside0.mk (blk_drew BK13.out)
          replace BK76 := Aside0.mk (blk_drew BK76.out)
          replace HB := Aside0.mk (below_drew1 HB.out)
          refine start_ (n := 7) (S := fun w' => w'.cell? ⟨gb76, 0, none⟩ = some (.slice Ao157 y86.length co157) ∧ w'.cell? ⟨gb76, 1, none⟩ = some (.slice Ao159 y92.length co159) ∧ w'.cell? ⟨gb76, 2, none⟩ = some (.slice Ao144 y80.length co144)) (ds := []) #[false, false, false, false, false, false, false] (by kernel_rfl) rfl rfl ⟨(blk_cell BK76.out 0).trans rfl, (blk_cell BK76.out 1).trans rfl, (blk_cell BK76.out 2).trans rfl⟩ (fun hHeld => ?_)
          generalize w161.drew = w162 at HO79 HO82 HO85 HO88 HO91 HO94 BK11 BK12 BK13 BK76 HB hHeld ⊢
          refine pure_ (i := 2) (N := some 106) (v := ?_) (a' := ?_) #[false, false, true, false, false, false, false] rfl rfl (by kernel_rfl) (fun _ _ _ h => h) (Or.inl ⟨by rfl, ?_⟩) ?_ ?_
          rotate_left
          ·intro w'
           go_simp
           with_reducible rfl
          rotate_left
          ·simp only [Act.put, List.setIfInBounds_toArray, List.set_cons_zero, List.set_cons_succ, i64_w, i32_w]
           rfl
          refine take_ (i := 0) (N := some 104) (v := ?_) (a' := ?_) #[true, false, true, false, false, false, false] rfl rfl (by kernel_rfl) (fun _ _ _ h => h) (Or.inl ⟨by rfl, ?_⟩) hHeld ?_ ?_
          rotate_left
          ·rintro w' ⟨s0, s1, s2⟩
           go_simp
           with_reducible rfl
          rotate_left
          ·simp only [Act.put, List.setIfInBounds_toArray, List.set_cons_zero, List.set_cons_succ, i64_w, i32_w]
           rfl
          refine take_ (i := 1) (N := some 105) (v := ?_) (a' := ?_) #[true, true, true, false, false, false, false] rfl rfl (by kernel_rfl) (fun _ _ _ h => h) (Or.inl ⟨by rfl, ?_⟩) hHeld ?_ ?_
          rotate_left
          ·rintro w' ⟨s0, s1, s2⟩
           go_simp
           with_reducible rfl
          rotate_left
          ·simp only [Act.put, List.setIfInBounds_toArray, List.set_cons_zero, List.set_cons_succ, i64_w, i32_w]
           rfl
          refine one_ (i := 3) (N := some 107) #[true, true, true, true, false, false, false] rfl rfl (by kernel_rfl) (by decide) (fun K hK => ?_)
          refine goes_ Try.func42 (by kernel_rfl) rfl #[.agg #[.slice Ao157 y86.length co157, .slice Ao159 y92.length co159, .slice Ao144 y80.length co144], .int .i64 (t73.length : Int)] (by rfl) rfl rfl (by (try simp only [List.map_toArray, List.map_cons, List.map_nil]); first | rfl ) ?_
          with_reducible refine (memo_Find.calls kj55 _ _ y86 _ _ y92 _ _ y80 (t73.length : Int) t95 _ ?side1 ?side2 ?side3 ?side4 ?side5 ?side6 A127.out).mono ?_
          (case side1 => exact cM (Kd.R_reads' HO88.out).2.2)
          (case side2 => exact (Kd.R_reads' HO88.out).2.1)
          (case side3 => exact cM (Kd.R_reads' HO94.out).2.2)
          (case side4 => exact (Kd.R_reads' HO94.out).2.1)
          (case side5 => exact cM (Kd.R_reads' HO82.out).2.2)
          (case side6 => exact (Kd.R_reads' HO82.out).2.1)
          rintro e w163 ⟨rfl, hb⟩
          refine ⟨_, rfl, ?_⟩
          replace HO79 := Aside0.mk (Kd.R_below (rM HO79.out) hb)
          replace HO82 := Aside0.mk (Kd.R_below (rM HO82.out) hb)
          replace HO85 := Aside0.mk (Kd.R_below (rM HO85.out) hb)
          replace HO88 := Aside0.mk (Kd.R_below (rM HO88.out) hb)
          replace HO91 := Aside0.mk (Kd.R_below (rM HO91.out) hb)
          replace HO94 := Aside0.mk (Kd.R_below (rM HO94.out) hb)
          replace BK11 := Aside0.mk (blk_below (kM BK11.out) hb)
          replace BK12 := Aside0.mk (blk_below (kM BK12.out) hb)
          replace BK13 := Aside0.mk (blk_below (kM BK13.out) hb)
          replace BK76 := Aside0.mk (blk_below (kM BK76.out) hb)
          replace HB := Aside0.mk (below_step (by exact wM HB.out) hb)
          (try clear hb)
          (try clear hb2)
          (try clear hk)
          (try clear hi)
          refine hK.out _ _ ⟨(blk_cell BK76.out 0).trans rfl, (blk_cell BK76.out 1).trans rfl, (blk_cell BK76.out 2).trans rfl⟩ (fun hHeld => ?_)
          clear hK K
          refine norm_ (a' := ?_) ?_ ?_
          rotate_left
          ·show Act.put _ (some 107) _ = _
           simp only [Act.put, List.setIfInBounds_toArray, List.set_cons_zero, List.set_cons_succ, i64_w, i32_w]
           rfl
          refine one_ (i := 4) (N := none) #[true, true, true, true, true, false, false] rfl rfl (by kernel_rfl) (by decide) (fun K hK => ?_)
          have hs164 : w163.cell? ⟨gb13, 0, none⟩ = some (.slice none 0 0) := (blk_cell BK13.out 0).trans rfl
          have hfs164 := blk_frozen BK13.out 0
          have hns164_0 := NB11_13.out
          have hns164_1 := NB12_13.out
          have hns164_3 := NB76_13.out
          have hms164_0 := NB13_11.out
          have hms164_1 := NB13_12.out
          have hms164_3 := NB13_76.out
          have hs165 : w163.cell? ⟨gb13, 1, none⟩ = some (.slice none 0 0) := (blk_cell BK13.out 1).trans rfl
          have hfs165 := blk_frozen BK13.out 1
          have hns165_0 := NB11_13.out
          have hns165_1 := NB12_13.out
          have hns165_3 := NB76_13.out
          have hms165_0 := NB13_11.out
          have hms165_1 := NB13_12.out
          have hms165_3 := NB13_76.out
          have hs166 : w163.cell? ⟨gb13, 2, none⟩ = some (.slice none 0 0) := (blk_cell BK13.out 2).trans rfl
          have hfs166 := blk_frozen BK13.out 2
          have hns166_0 := NB11_13.out
          have hns166_1 := NB12_13.out
          have hns166_3 := NB76_13.out
          have hms166_0 := NB13_11.out
          have hms166_1 := NB13_12.out
          have hms166_3 := NB13_76.out
          refine skip_ (w1 := ?_) (by rfl) rfl ?_ ?_
          rotate_left
          ·go_simp
           rfl
          refine hK.out _ _ ⟨((cell_far (p := ⟨gb13, _, none⟩) NB76_13.out _).trans (((cell_far (p := ⟨gb13, _, none⟩) NB76_13.out _).trans (((cell_far (p := ⟨gb13, _, none⟩) NB76_13.out _).trans (hHeld.1)))))), ((cell_far (p := ⟨gb13, _, none⟩) NB76_13.out _).trans (((cell_far (p := ⟨gb13, _, none⟩) NB76_13.out _).trans (((cell_far (p := ⟨gb13, _, none⟩) NB76_13.out _).trans (hHeld.2.1)))))), ((cell_far (p := ⟨gb13, _, none⟩) NB76_13.out _).trans (((cell_far (p := ⟨gb13, _, none⟩) NB76_13.out _).trans (((cell_far (p := ⟨gb13, _, none⟩) NB76_13.out _).trans (hHeld.2.2))))))⟩ (fun hHeld => ?_)
          clear hK K
          refine pure_ (i := 5) (N := some 7) (v := ?_) (a' := ?_) #[true, true, true, true, true, true, false] rfl rfl (by kernel_rfl) (fun _ _ _ h => h) (Or.inl ⟨by rfl, ?_⟩) ?_ ?_
          rotate_left
          ·intro w'
           go_simp
           with_reducible rfl
          rotate_left
          ·simp only [Act.put, List.setIfInBounds_toArray, List.set_cons_zero, List.set_cons_succ, i64_w, i32_w]
           rfl
          refine pure_ (i := 6) (N := some 8) (v := ?_) (a' := ?_) #[true, true, true, true, true, true, true] rfl rfl (by kernel_rfl) (fun _ _ _ h => h) (Or.inl ⟨by rfl, ?_⟩) ?_ ?_
          rotate_left
          ·intro w'
           go_simp
           with_reducible rfl
          rotate_left
          ·simp only [Act.put, List.setIfInBounds_toArray, List.set_cons_zero, List.set_cons_succ, i64_w, i32_w]
           rfl
          refine done_ (by kernel_rfl) ?_
          try go_wp2
          refine bodyPost_ret (results_ctt rfl _ _ gb13 38 #[.slice Ao157 y86.length co157, .slice Ao159 y92.length co159, .slice Ao144 y80.length co144] (0, 0) _ rfl (by (with_reducible repeat (first | refine blk_drewN ?_ _ | refine blk_drew ?_ | refine blk_alloc ?_ _)); exact kP1 BK13.out) Try.underlying38 rfl (by kernel_rfl)) rfl ?_
          exact ⟨_, _, _, by rfl, by (with_reducible repeat (first | apply Kd.R_alloc | apply Kd.R_drewN | apply Kd.R_drew)); exact Kd.R_mono (Kd.R_far (p := ⟨gb13, 2, none⟩) (Kd.R_far (p := ⟨gb13, 1, none⟩) (Kd.R_far (p := ⟨gb13, 0, none⟩) (Kd.R_types HO88.out BK13.out (by decide)) (fun _ hk => hk.2) (.slice Ao157 y86.length co157)) (fun _ hk => hk.2) (.slice Ao159 y92.length co159)) (fun _ hk => hk.2) (.slice Ao144 y80.length co144)) (fun _ hk => trivial), by (with_reducible repeat (first | apply Kd.R_alloc | apply Kd.R_drewN | apply Kd.R_drew)); exact Kd.R_mono (Kd.R_far (p := ⟨gb13, 2, none⟩) (Kd.R_far (p := ⟨gb13, 1, none⟩) (Kd.R_far (p := ⟨gb13, 0, none⟩) (Kd.R_types HO94.out BK13.out (by decide)) (fun _ hk => hk.2) (.slice Ao157 y86.length co157)) (fun _ hk => hk.2) (.slice Ao159 y92.length co159)) (fun _ hk => hk.2) (.slice Ao144 y80.length co144)) (fun _ hk => hk.1.2.1), by (with_reducible repeat (first | apply Kd.R_alloc | apply Kd.R_drewN | apply Kd.R_drew)); exact Kd.R_mono (Kd.R_far (p := ⟨gb13, 2, none⟩) (Kd.R_far (p := ⟨gb13, 1, none⟩) (Kd.R_far (p := ⟨gb13, 0, none⟩) (Kd.R_types HO82.out BK13.out (by decide)) (fun _ hk => hk.2) (.slice Ao157 y86.length co157)) (fun _ hk => hk.2) (.slice Ao159 y92.length co159)) (fun _ hk => hk.2) (.slice Ao144 y80.length co144)) (fun _ hk => hk.1.2.2), by repeat ((with_reducible first | exact HB.out | refine below_set ?_ GE13.out ))⟩
         ·rw [if_neg c126] at H
          exact absurd H (by simp)
        ·rw [if_neg c125] at H
         exact absurd H (by simp)
       ·rw [if_neg c124] at H
        exact absurd H (by simp)
      ·rw [if_neg c123] at H
       have c123b0 : (a2 == (-1)) = false := beq_eq_false_iff_ne.mpr c123
       have c123b1 : (a2 != (-1)) = true := bne_iff_ne.mpr c123
       obtain ⟨y96, hy96⟩ : ∃ y_ : List (S48), y_ = (([(⟨a1_0, a1_1, a1_2, a1_3⟩ : S48)] : List (S48))) := ⟨_, rfl⟩
       replace H : (if t67.length + y96.length < 4398046511104 then ((some (t67 ++ y96 : List (S48))).bind fun y99 => ((some (([a2] : List Int) : List Int)).bind fun y102 => (if t70.length + y102.length < 17592186044416 then ((some (t70 ++ y102 : List Int)).bind fun y105 => ((memo_Find.f kj55 y99 y105 t73 a2).bind fun t108 => (some (y99, y105, t73, t108, 0)))) else (none)))) else (none)) = some (r1, r2, r3, r4, r5) := by (have H2_ := (Option.bind_some _ _).symm.trans H; rw [hy96]; with_reducible exact H2_)
       have Ny96 := Aside0.mk hy96
       clear hy96
       by_cases c167 : t67.length + y96.length < 4398046511104
       ·rw [if_pos c167] at H
        have LMc167 := Aside0.mk c167
        clear c167
        obtain ⟨y99, hy99⟩ : ∃ y_ : List (S48), y_ = (t67 ++ y96) := ⟨_, rfl⟩
        replace H : ((some (([a2] : List Int) : List Int)).bind fun y102 => (if t70.length + y102.length < 17592186044416 then ((some (t70 ++ y102 : List Int)).bind fun y105 => ((memo_Find.f kj55 y99 y105 t73 a2).bind fun t108 => (some (y99, y105, t73, t108, 0)))) else (none))) = some (r1, r2, r3, r4, r5) := by (have H2_ := (Option.bind_some _ _).symm.trans H; rw [hy99]; with_reducible exact H2_)
        have Ny99 := Aside0.mk hy99
        clear hy99
        obtain ⟨y102, hy102⟩ : ∃ y_ : List Int, y_ = (([a2] : List Int)) := ⟨_, rfl⟩
        replace H : (if t70.length + y102.length < 17592186044416 then ((some (t70 ++ y102 : List Int)).bind fun y105 => ((memo_Find.f kj55 y99 y105 t73 a2).bind fun t108 => (some (y99, y105, t73, t108, 0)))) else (none)) = some (r1, r2, r3, r4, r5) := by (have H2_ := (Option.bind_some _ _).symm.trans H; rw [hy102]; with_reducible exact H2_)
        have Ny102 := Aside0.mk hy102
        clear hy102
        by_cases c168 : t70.length + y102.length < 17592186044416
        ·rw [if_pos c168] at H
         have LMc168 := Aside0.mk c168
         clear c168
         obtain ⟨y105, hy105⟩ : ∃ y_ : List Int, y_ = (t70 ++ y102) := ⟨_, rfl⟩
         replace H : ((memo_Find.f kj55 y99 y105 t73 a2).bind fun t108 => (some (y99, y105, t73, t108, 0))) = some (r1, r2, r3, r4, r5) := by (have H2_ := (Option.bind_some _ _).symm.trans H; rw [hy105]; with_reducible exact H2_)
         have Ny105 := Aside0.mk hy105
         clear hy105
         replace H := Option.bind_eq_some_iff.mp H
         obtain ⟨t108, A1690, H⟩ := H
         have A169 := Aside0.mk A1690
         clear A1690
         simp only [Option.some.injEq, Prod.mk.injEq] at H
         obtain ⟨rfl, rfl, rfl, rfl, rfl⟩ := H
         have hnb170 := NB11_12.out
         have hnc170 := NB12_11.out
         have hnb171 := NB11_13.out
         have hnc171 := NB13_11.out
         obtain ⟨hcz172_0, hcz172_1, hcz172_2, hfz172_0, hfz172_1, hfz172_2⟩ := bk3 BK11.out
         try go_wp2_with (first | ((with_reducible refine gate_callee (f := 75) rfl ?_); refine goesL_ (some 80) rfl rfl Try.func75 (by kernel_rfl) rfl #[.agg #[.slice A0_0 l0_0.length c0_0, .slice A0_1 l0_1.length c0_1, .slice A0_2 l0_2.length c0_2]] rfl (by (try simp only [List.map_toArray, List.map_cons, List.map_nil]); first | rfl ) ?_; (with_reducible refine (memo_own.calls kj55 _ _ l0_0 _ _ l0_1 _ _ l0_2 t67 t70 t73 _ ?side1 ?side2 ?side3 ?side4 ?side5 ?side6 A122.out).mono ?_); (case side1 => exact cM (Kd.C_below HR0_0.out HB.out)); (case side2 => exact HC0_0.out); (case side3 => exact cM (Kd.C_below HR0_1.out HB.out)); (case side4 => exact HC0_1.out); (case side5 => exact cM (Kd.C_below HR0_2.out HB.out)); (case side6 => exact HC0_2.out); rintro e w173 ⟨v68, v71, v74, rfl, ho0, ho1, ho2, hb⟩; refine ⟨_, rfl, ?_⟩; have HO69 := Aside0.mk (Kd.R_lower (Kd.R_newB ho0 (kM BK12.out)) (below_size (by exact wM HB.out))); have HO72 := Aside0.mk (Kd.R_lower ho1 (below_size (by exact wM HB.out))); have HO75 := Aside0.mk (Kd.R_lower ho2 (below_size (by exact wM HB.out))); replace BK11 := Aside0.mk (blk_below (kM BK11.out) hb); replace BK12 := Aside0.mk (blk_below (kM BK12.out) hb); replace BK13 := Aside0.mk (blk_below (kM BK13.out) hb); replace HB := Aside0.mk (below_step (by exact wM HB.out) hb); (try clear hb); (try clear ho0); (try clear ho1); (try clear ho2)) | ((with_reducible refine gate_dst (N := 11) rfl ?_); (try (refine gate_guard (by rfl) ?_; dsimp only)); refine box_event ?hg (N := 11) ?hd (cs := #[.slice none 0 0, .slice none 0 0, .slice none 0 0]) (t := 38) ?hr ?_; (case hd => rfl); (case hg => rfl); (case hr => first | (go_simp; done) ); intro gb76 hg w174 hbox hb; replace HO69 := Aside0.mk (Kd.R_below (rM HO69.out) hb); replace HO72 := Aside0.mk (Kd.R_below (rM HO72.out) hb); replace HO75 := Aside0.mk (Kd.R_below (rM HO75.out) hb); have BK76 := Aside0.mk (hbox); have GW76 := Aside0.mk ((by rw [hg]; exact (below_size (by exact wM HB.out)) : w.heap.size ≤ gb76)); have GE76 := Aside0.mk ((by rw [hg]; exact (below_size (by exact wM HB.out)) : w.heap.size ≤ gb76)); replace HB := Aside0.mk (below_step (by exact wM HB.out) hb); have NB11_76 := Aside0.mk ((by rw [hg]; exact Nat.ne_of_lt (blk_lt (kM BK11.out)) : gb11 ≠ gb76)); have NB76_11 := Aside0.mk ((by rw [hg]; exact Nat.ne_of_gt (blk_lt (kM BK11.out)) : gb76 ≠ gb11)); replace BK11 := Aside0.mk (blk_below (kM BK11.out) hb); have NB12_76 := Aside0.mk ((by rw [hg]; exact Nat.ne_of_lt (blk_lt (kM BK12.out)) : gb12 ≠ gb76)); have NB76_12 := Aside0.mk ((by rw [hg]; exact Nat.ne_of_gt (blk_lt (kM BK12.out)) : gb76 ≠ gb12)); replace BK12 := Aside0.mk (blk_below (kM BK12.out) hb); have NB13_76 := Aside0.mk ((by rw [hg]; exact Nat.ne_of_lt (blk_lt (kM BK13.out)) : gb13 ≠ gb76)); have NB76_13 := Aside0.mk ((by rw [hg]; exact Nat.ne_of_gt (blk_lt (kM BK13.out)) : gb76 ≠ gb13)); replace BK13 := Aside0.mk (blk_below (kM BK13.out) hb); clear hb hbox hg; obtain ⟨Ao175, co175, eo175⟩ := Kd.R_slice HO69.out; subst eo175; have hnb176 := NB76_11.out; have hnc176 := NB11_76.out; have hnb177 := NB76_12.out; have hnc177 := NB12_76.out; have hnb178 := NB76_13.out; have hnc178 := NB13_76.out; obtain ⟨hcz179_0, hcz179_1, hcz179_2, hfz179_0, hfz179_1, hfz179_2⟩ := bk3 BK76.out; obtain ⟨Ao180, co180, eo180⟩ := Kd.R_slice HO72.out; subst eo180; obtain ⟨Ao181, co181, eo181⟩ := Kd.R_slice HO75.out; subst eo181))
         have n0_ : Aside0 (Kd.R k48 48 (((w174.setCell ⟨gb76, 0, none⟩ (.slice Ao175 t67.length co175)).setCell ⟨gb76, 1, none⟩ (.slice Ao180 t70.length co180)).setCell ⟨gb76, 2, none⟩ (.slice Ao181 t73.length co181)) w.heap.size (fun k_ => k_ ≠ gb12) (.slice Ao175 t67.length co175) t67) := ⟨by (with_reducible repeat (first | apply Kd.R_alloc | apply Kd.R_drewN | apply Kd.R_drew)); exact Kd.R_mono (Kd.R_far (p := ⟨gb76, 2, none⟩) (Kd.R_far (p := ⟨gb76, 1, none⟩) (Kd.R_far (p := ⟨gb76, 0, none⟩) (Kd.R_types HO69.out BK76.out (by decide)) (fun _ hk => hk.2) (.slice Ao175 t67.length co175)) (fun _ hk => hk.2) (.slice Ao180 t70.length co180)) (fun _ hk => hk.2) (.slice Ao181 t73.length co181)) (fun _ hk => hk.1.2)⟩
         have n1_ : Aside0 (Kd.R (Kd.int .i64) 3 (((w174.setCell ⟨gb76, 0, none⟩ (.slice Ao175 t67.length co175)).setCell ⟨gb76, 1, none⟩ (.slice Ao180 t70.length co180)).setCell ⟨gb76, 2, none⟩ (.slice Ao181 t73.length co181)) w.heap.size (fun k_ => some k_ ≠ (.slice Ao181 t73.length co181 : Value).ownBlock) (.slice Ao180 t70.length co180) t70) := ⟨by (with_reducible repeat (first | apply Kd.R_alloc | apply Kd.R_drewN | apply Kd.R_drew)); exact Kd.R_mono (Kd.R_far (p := ⟨gb76, 2, none⟩) (Kd.R_far (p := ⟨gb76, 1, none⟩) (Kd.R_far (p := ⟨gb76, 0, none⟩) (Kd.R_types HO72.out BK76.out (by decide)) (fun _ hk => hk.2) (.slice Ao175 t67.length co175)) (fun _ hk => hk.2) (.slice Ao180 t70.length co180)) (fun _ hk => hk.2) (.slice Ao181 t73.length co181)) (fun _ hk => hk.1)⟩
         have n2_ : Aside0 (Kd.R (Kd.int .i64) 3 (((w174.setCell ⟨gb76, 0, none⟩ (.slice Ao175 t67.length co175)).setCell ⟨gb76, 1, none⟩ (.slice Ao180 t70.length co180)).setCell ⟨gb76, 2, none⟩ (.slice Ao181 t73.length co181)) w.heap.size (fun k_ => some k_ ≠ (.slice Ao180 t70.length co180 : Value).ownBlock) (.slice Ao181 t73.length co181) t73) := ⟨by (with_reducible repeat (first | apply Kd.R_alloc | apply Kd.R_drewN | apply Kd.R_drew)); exact Kd.R_mono (Kd.R_far (p := ⟨gb76, 2, none⟩) (Kd.R_far (p := ⟨gb76, 1, none⟩) (Kd.R_far (p := ⟨gb76, 0, none⟩) (Kd.R_types HO75.out BK76.out (by decide)) (fun _ hk => hk.2) (.slice Ao175 t67.length co175)) (fun _ hk => hk.2) (.slice Ao180 t70.length co180)) (fun _ hk => hk.2) (.slice Ao181 t73.length co181)) (fun _ hk => hk.1)⟩
         have n3_ : Aside0 ((((w174.setCell ⟨gb76, 0, none⟩ (.slice Ao175 t67.length co175)).setCell ⟨gb76, 1, none⟩ (.slice Ao180 t70.length co180)).setCell ⟨gb76, 2, none⟩ (.slice Ao181 t73.length co181)).heap[gb11]? = some (.cells #[.slice A0_0 l0_0.length c0_0, .slice A0_1 l0_1.length c0_1, .slice A0_2 l0_2.length c0_2] 38 (0, 0))) := ⟨by (with_reducible repeat (first | refine blk_drewN ?_ _ | refine blk_drew ?_ | refine blk_alloc ?_ _)); refine blk_far ?_ NB11_76.out _; (with_reducible repeat (first | refine blk_drewN ?_ _ | refine blk_drew ?_ | refine blk_alloc ?_ _)); refine blk_far ?_ NB11_76.out _; (with_reducible repeat (first | refine blk_drewN ?_ _ | refine blk_drew ?_ | refine blk_alloc ?_ _)); refine blk_far ?_ NB11_76.out _; (with_reducible repeat (first | refine blk_drewN ?_ _ | refine blk_drew ?_ | refine blk_alloc ?_ _)); exact BK11.out⟩
         have n4_ : Aside0 ((((w174.setCell ⟨gb76, 0, none⟩ (.slice Ao175 t67.length co175)).setCell ⟨gb76, 1, none⟩ (.slice Ao180 t70.length co180)).setCell ⟨gb76, 2, none⟩ (.slice Ao181 t73.length co181)).heap[gb12]? = some (.cells #[.bool a1_0, .int .i64 a1_1, .int .i64 a1_2, .int .i64 a1_3] 48 (0, 0))) := ⟨by (with_reducible repeat (first | refine blk_drewN ?_ _ | refine blk_drew ?_ | refine blk_alloc ?_ _)); refine blk_far ?_ NB12_76.out _; (with_reducible repeat (first | refine blk_drewN ?_ _ | refine blk_drew ?_ | refine blk_alloc ?_ _)); refine blk_far ?_ NB12_76.out _; (with_reducible repeat (first | refine blk_drewN ?_ _ | refine blk_drew ?_ | refine blk_alloc ?_ _)); refine blk_far ?_ NB12_76.out _; (with_reducible repeat (first | refine blk_drewN ?_ _ | refine blk_drew ?_ | refine blk_alloc ?_ _)); exact BK12.out⟩
         have n5_ : Aside0 ((((w174.setCell ⟨gb76, 0, none⟩ (.slice Ao175 t67.length co175)).setCell ⟨gb76, 1, none⟩ (.slice Ao180 t70.length co180)).setCell ⟨gb76, 2, none⟩ (.slice Ao181 t73.length co181)).heap[gb13]? = some (.cells #[.slice none 0 0, .slice none 0 0, .slice none 0 0] 38 (0, 0))) := ⟨by (with_reducible repeat (first | refine blk_drewN ?_ _ | refine blk_drew ?_ | refine blk_alloc ?_ _)); refine blk_far ?_ NB13_76.out _; (with_reducible repeat (first | refine blk_drewN ?_ _ | refine blk_drew ?_ | refine blk_alloc ?_ _)); refine blk_far ?_ NB13_76.out _; (with_reducible repeat (first | refine blk_drewN ?_ _ | refine blk_drew ?_ | refine blk_alloc ?_ _)); refine blk_far ?_ NB13_76.out _; (with_reducible repeat (first | refine blk_drewN ?_ _ | refine blk_drew ?_ | refine blk_alloc ?_ _)); exact BK13.out⟩
         have n6_ : Aside0 ((((w174.setCell ⟨gb76, 0, none⟩ (.slice Ao175 t67.length co175)).setCell ⟨gb76, 1, none⟩ (.slice Ao180 t70.length co180)).setCell ⟨gb76, 2, none⟩ (.slice Ao181 t73.length co181)).heap[gb76]? = some (.cells #[.slice Ao175 t67.length co175, .slice Ao180 t70.length co180, .slice Ao181 t73.length co181] 38 (0, 0))) := ⟨by (with_reducible repeat (first | refine blk_drewN ?_ _ | refine blk_drew ?_ | refine blk_alloc ?_ _)); refine blk_put (cs := #[.slice Ao175 t67.length co175, .slice Ao180 t70.length co180, .slice none 0 0]) ?_ 2 _ rfl; (with_reducible repeat (first | refine blk_drewN ?_ _ | refine blk_drew ?_ | refine blk_alloc ?_ _)); refine blk_put (cs := #[.slice Ao175 t67.length co175, .slice none 0 0, .slice none 0 0]) ?_ 1 _ rfl; (with_reducible repeat (first | refine blk_drewN ?_ _ | refine blk_drew ?_ | refine blk_alloc ?_ _)); refine blk_put (cs := #[.slice none 0 0, .slice none 0 0, .slice none 0 0]) ?_ 0 _ rfl; (with_reducible repeat (first | refine blk_drewN ?_ _ | refine blk_drew ?_ | refine blk_alloc ?_ _)); exact BK76.out⟩
         have n7_ : Aside0 (Below w.heap.size w (((w174.setCell ⟨gb76, 0, none⟩ (.slice Ao175 t67.length co175)).setCell ⟨gb76, 1, none⟩ (.slice Ao180 t70.length co180)).setCell ⟨gb76, 2, none⟩ (.slice Ao181 t73.length co181))) := ⟨by repeat ((with_reducible first | exact HB.out | refine below_set ?_ GE76.out))⟩
         (try clear HO69)
         (try clear HO72)
         (try clear HO75)
         (try clear BK11)
         (try clear BK12)
         (try clear BK13)
         (try clear BK76)
         (try clear HB)
         generalize (((w174.setCell ⟨gb76, 0, none⟩ (.slice Ao175 t67.length co175)).setCell ⟨gb76, 1, none⟩ (.slice Ao180 t70.length co180)).setCell ⟨gb76, 2, none⟩ (.slice Ao181 t73.length co181)) = w182 at n0_ n1_ n2_ n3_ n4_ n5_ n6_ n7_ ⊢
         have HO69 := n0_
         have HO72 := n1_
         have HO75 := n2_
         have BK11 := n3_
         have BK12 := n4_
         have BK13 := n5_
         have BK76 := n6_
         have HB := n7_
         clear n0_ n1_ n2_ n3_ n4_ n5_ n6_ n7_
         replace HO69 := Aside0.mk (Kd.R_drew HO69.out)
         replace HO72 := Aside0.mk (Kd.R_drew HO72.out)
         replace HO75 := Aside0.mk (Kd.R_drew HO75.out)
         replace BK11 := Aside0.mk (blk_drew BK11.out)
         replace BK12 := Aside0.mk (blk_drew BK12.out)
         replace BK13 := Aside0.mk (blk_drew BK13.out)
         replace BK76 := Aside0.mk (blk_drew BK76.out)
         replace HB := Aside0.mk (below_drew1 HB.out)
         refine start_ (n := 14) (S := fun w' => w'.cell? ⟨gb76, 0, none⟩ = some (.slice Ao175 t67.length co175) ∧ w'.cell? ⟨gb76, 1, none⟩ = some (.slice Ao180 t70.length co180) ∧ w'.cell? ⟨gb76, 2, none⟩ = some (.slice Ao181 t73.length co181) ∧ w'.cell? ⟨gb12, 0, none⟩ = some (.bool a1_0) ∧ w'.cell? ⟨gb12, 1, none⟩ = some (.int .i64 a1_1) ∧ w'.cell? ⟨gb12, 2, none⟩ = some (.int .i64 a1_2) ∧ w'.cell? ⟨gb12, 3, none⟩ = some (.int .i64 a1_3)) (ds := [11, 13]) #[false, false, false, false, false, false, false, false, false, false, false, false, false, false] (by kernel_rfl) rfl rfl ⟨(blk_cell BK76.out 0).trans rfl, (blk_cell BK76.out 1).trans rfl, (blk_cell BK76.out 2).trans rfl, (blk_cell BK12.out 0).trans rfl, (blk_cell BK12.out 1).trans rfl, (blk_cell BK12.out 2).trans rfl, (blk_cell BK12.out 3).trans rfl⟩ (fun hHeld => ?_); refine with_tabW memo_Put.tab15 memo_Put.bits15 (fun HT_ HW_ => ?_)
         generalize w182.drew = w183 at HO69 HO72 HO75 BK11 BK12 BK13 BK76 HB hHeld ⊢
         refine pure_ (i := 0) (N := some 92) (v := ?_) (a' := ?_) #[true, false, false, false, false, false, false, false, false, false, false, false, false, false] rfl rfl (any_of HT_.out (by kernel_rfl)) (fun _ _ _ h => h) (Or.inl ⟨by rfl, ?_⟩) ?_ ?_
         rotate_left
         ·intro w'
          go_simp
          with_reducible rfl
         rotate_left
         ·simp only [Act.put, List.setIfInBounds_toArray, List.set_cons_zero, List.set_cons_succ, i64_w, i32_w]
          rfl
         refine pure_ (i := 5) (N := some 97) (v := ?_) (a' := ?_) #[true, false, false, false, false, true, false, false, false, false, false, false, false, false] rfl rfl (any_of HT_.out (by kernel_rfl)) (fun _ _ _ h => h) (Or.inl ⟨by rfl, ?_⟩) ?_ ?_
         rotate_left
         ·intro w'
          go_simp
          with_reducible rfl
         rotate_left
         ·simp only [Act.put, List.setIfInBounds_toArray, List.set_cons_zero, List.set_cons_succ, i64_w, i32_w]
          rfl
         refine pure_ (i := 7) (N := some 99) (v := ?_) (a' := ?_) #[true, false, false, false, false, true, false, true, false, false, false, false, false, false] rfl rfl (any_of HT_.out (by kernel_rfl)) (fun _ _ _ h => h) (Or.inl ⟨by rfl, ?_⟩) ?_ ?_
         rotate_left
         ·intro w'
          go_simp
          with_reducible rfl
         rotate_left
         ·simp only [Act.put, List.setIfInBounds_toArray, List.set_cons_zero, List.set_cons_succ, i64_w, i32_w]
          rfl
         refine take_ (i := 1) (N := some 93) (v := ?_) (a' := ?_) #[true, true, false, false, false, true, false, true, false, false, false, false, false, false] rfl rfl (take_ofW HT_.out HW_.out (by kernel_rfl)) (fun _ _ _ h => h) (Or.inl ⟨by rfl, ?_⟩) hHeld ?_ ?_
         rotate_left
         ·rintro w' ⟨s0, s1, s2, s3, s4, s5, s6⟩
          go_simp
          with_reducible rfl
         rotate_left
         ·simp only [Act.put, List.setIfInBounds_toArray, List.set_cons_zero, List.set_cons_succ, i64_w, i32_w]
          rfl
         refine take_ (i := 2) (N := some 94) (v := ?_) (a' := ?_) #[true, true, true, false, false, true, false, true, false, false, false, false, false, false] rfl rfl (take_ofW HT_.out HW_.out (by kernel_rfl)) (fun _ _ _ h => h) (Or.inl ⟨by rfl, ?_⟩) hHeld ?_ ?_
         rotate_left
         ·rintro w' ⟨s0, s1, s2, s3, s4, s5, s6⟩
          go_simp
          with_reducible rfl
         rotate_left
         ·simp only [Act.put, List.setIfInBounds_toArray, List.set_cons_zero, List.set_cons_succ, i64_w, i32_w]
          rfl
         refine take_ (i := 6) (N := some 98) (v := ?_) (a' := ?_) #[true, true, true, false, false, true, true, true, false, false, false, false, false, false] rfl rfl (take_ofW HT_.out HW_.out (by kernel_rfl)) (fun _ _ _ h => h) (Or.inl ⟨by rfl, ?_⟩) hHeld ?_ ?_
         rotate_left
         ·rintro w' ⟨s0, s1, s2, s3, s4, s5, s6⟩
          go_simp
          with_reducible rfl
         rotate_left
         ·simp only [Act.put, List.setIfInBounds_toArray, List.set_cons_zero, List.set_cons_succ, i64_w, i32_w]
          rfl
         refine join_ (σ := Value × Value × Value) 4 #[true, true, true, true, true, true, true, true, true, false, true, false, false, false] (fun s_ => [(95, s_.1), (96, s_.2.1), (100, s_.2.2), (102, .pointer (some ⟨gb76, 0, none⟩))]) (fun s_ w' => (w'.cell? ⟨gb76, 0, none⟩ = some (.slice Ao175 t67.length co175) ∧ w'.cell? ⟨gb76, 1, none⟩ = some (.slice Ao180 t70.length co180) ∧ w'.cell? ⟨gb76, 2, none⟩ = some (.slice Ao181 t73.length co181) ∧ w'.cell? ⟨gb12, 0, none⟩ = some (.bool a1_0) ∧ w'.cell? ⟨gb12, 1, none⟩ = some (.int .i64 a1_1) ∧ w'.cell? ⟨gb12, 2, none⟩ = some (.int .i64 a1_2) ∧ w'.cell? ⟨gb12, 3, none⟩ = some (.int .i64 a1_3)) ∧ (Kd.R k48 48 w' w.heap.size (fun k_ => some k_ ≠ (s_.1 : Value).ownBlock ∧ k_ ≠ gb12) s_.2.1 y99) ∧ (Kd.R (Kd.int .i64) 3 w' w.heap.size (fun k_ => some k_ ≠ (.slice Ao180 t70.length co180 : Value).ownBlock ∧ some k_ ≠ (.slice Ao181 t73.length co181 : Value).ownBlock) s_.2.2 y102) ∧ (Kd.R (Kd.int .i64) 3 w' w.heap.size (fun k_ => some k_ ≠ (s_.2.2 : Value).ownBlock ∧ some k_ ≠ (.slice Ao181 t73.length co181 : Value).ownBlock) (.slice Ao180 t70.length co180) t70) ∧ (Kd.R (Kd.int .i64) 3 w' w.heap.size (fun k_ => some k_ ≠ (s_.2.2 : Value).ownBlock ∧ some k_ ≠ (.slice Ao180 t70.length co180 : Value).ownBlock) (.slice Ao181 t73.length co181) t73) ∧ (Kd.R k48 48 w' w.heap.size (fun k_ => some k_ ≠ (s_.2.1 : Value).ownBlock ∧ k_ ≠ gb12) s_.1 y96) ∧ (w'.heap[gb11]? = some (.cells #[.slice A0_0 l0_0.length c0_0, .slice A0_1 l0_1.length c0_1, .slice A0_2 l0_2.length c0_2] 38 (0, 0))) ∧ (w'.heap[gb12]? = some (.cells #[.bool a1_0, .int .i64 a1_1, .int .i64 a1_2, .int .i64 a1_3] 48 (0, 0))) ∧ (w'.heap[gb13]? = some (.cells #[.slice none 0 0, .slice none 0 0, .slice none 0 0] 38 (0, 0))) ∧ (w'.heap[gb76]? = some (.cells #[.slice Ao175 t67.length co175, .slice Ao180 t70.length co180, .slice Ao181 t73.length co181] 38 (0, 0))) ∧ (Below w.heap.size w w')) ?_ ?_
         rotate_left
         ·intro hCont
          refine two_ (i := 3) (j := 8) (Ni := some 95) (Nj := some 100) #[true, true, true, true, false, true, true, true, false, false, false, false, false, false] #[true, true, true, false, false, true, true, true, true, false, false, false, false, false] rfl rfl rfl rfl (two_of HT_.out (by kernel_rfl)) (by decide) (by decide) (fun K hK => ?_) (fun K hK => ?_)
          ·skip
           refine Kd.R_lit_step k48 _ 48 ?hg (N := 95) ?hd (xs := ([(⟨a1_0, a1_1, a1_2, a1_3⟩ : S48)] : List (S48))) (inner := [.bool a1_0, .int .i64 a1_1, .int .i64 a1_2, .int .i64 a1_3]) (ok := fun _ => True) (okp := fun _ => True) ?hr ?hp (fun _ hk => hk) trivial (Below.refl _ _) (Nat.le_refl _) (by simp) ?_; (case hd => rfl); (case hg => rfl); (case hr => first | (go_simp; done) ); (case hp => exact (Reps.c4 (show Kd.M k48 _ _ _ (⟨a1_0, a1_1, a1_2, a1_3⟩ : S48) [.bool a1_0, .int .i64 a1_1, .int .i64 a1_2, .int .i64 a1_3] from (k48_mkM _ _ _ (⟨a1_0, a1_1, a1_2, a1_3⟩ : S48) )) (Reps.none _ _)))
           intro v97 w184 ho185 hb hg_ hnew_
           clear hg_ hnew_
           (rw [← Ny96.out] at ho185)
           replace HO72 := Aside0.mk (Kd.R_below (rM HO72.out) hb)
           replace HO75 := Aside0.mk (Kd.R_below (rM HO75.out) hb)
           have HO98 := Aside0.mk (Kd.R_lower (Kd.R_newB (Kd.R_new' ho185 (Kd.R_lt (rM HO69.out))) (kM BK12.out)) (below_size (by exact wM HB.out)))
           replace HO69 := Aside0.mk (Kd.R_elder' (rM HO69.out) (Kd.R_base ho185) hb)
           replace BK11 := Aside0.mk (blk_below (kM BK11.out) hb)
           replace BK12 := Aside0.mk (blk_below (kM BK12.out) hb)
           replace BK13 := Aside0.mk (blk_below (kM BK13.out) hb)
           replace BK76 := Aside0.mk (blk_below (kM BK76.out) hb)
           replace HB := Aside0.mk (below_step (by exact wM HB.out) hb)
           clear hb ho185
           obtain ⟨Ao187, co187, eo187⟩ := Kd.R_slice HO98.out
           (subst eo187)
           refine hK.out _ _ ⟨(blk_cell BK76.out 0).trans rfl, (blk_cell BK76.out 1).trans rfl, (blk_cell BK76.out 2).trans rfl, (blk_cell BK12.out 0).trans rfl, (blk_cell BK12.out 1).trans rfl, (blk_cell BK12.out 2).trans rfl, (blk_cell BK12.out 3).trans rfl⟩ (fun hHeld => ?_)
           clear hK K
           refine norm_ (a' := ?_) ?_ ?_
           rotate_left
           ·show Act.put _ (some 95) _ = _
            simp only [Act.put, List.setIfInBounds_toArray, List.set_cons_zero, List.set_cons_succ, i64_w, i32_w]
            rfl
           refine two_ (i := 4) (j := 8) (Ni := some 96) (Nj := some 100) #[true, true, true, true, true, true, true, true, false, false, false, false, false, false] #[true, true, true, true, false, true, true, true, true, false, false, false, false, false] rfl rfl rfl rfl (two_of HT_.out (by kernel_rfl)) (by decide) (by decide) (fun K hK => ?_) (fun K hK => ?_)
           ·skip
            refine Kd.R_append_rows_step k48 (w0 := w) w.heap.size (by rfl) (.tmp 93) (.tmp 95) 36 48 (.agg #[(.bool false), (.int .i64 0), (.int .i64 0), (.int .i64 0)]) 32 rfl Try.underlying36 info48 rfl (by decide) (by omega) (.slice Ao175 t67.length co175) t67 y96 _ _ _ (fun k_ => some k_ ≠ (.slice Ao187 y96.length co187 : Value).ownBlock ∧ k_ ≠ gb12) (fun _ => False) rfl rfl ?aO ?aR (fun _ _ h => h) (fun _ h => h.elim) ?aF ?aB ?aS ?aL ?_
            (case aR => exact cM (Kd.R_reads' HO98.out).2.2)
            (case aB => exact (by exact wM HB.out))
            (case aF => exact (fun k_ hk => ⟨Kd.fresh' (Kd.R_lt (rM HO98.out)) k_ hk, Kd.freshB (kM BK12.out) k_ hk⟩))
            (case aO => exact (by (with_reducible repeat (first | apply Kd.R_alloc | apply Kd.R_drewN | apply Kd.R_drew)); exact Kd.R_mono HO69.out (fun _ hk => ⟨hk.2, hk.1⟩)))
            (case aS => exact (below_size (by exact wM HB.out)))
            (case aL => have := LMc167.out; omega)
            intro v100 w186 ho hb hg hat
            rw [← Ny99.out] at ho
            replace BK11 := Aside0.mk (blk_grown (kM BK11.out) hg (Kd.R_ne HO69.out BK11.out (by decide)))
            replace BK12 := Aside0.mk (blk_grown (kM BK12.out) hg (Kd.R_away HO69.out (fun _ hk => hk.1)))
            replace BK13 := Aside0.mk (blk_grown (kM BK13.out) hg (Kd.R_ne HO69.out BK13.out (by decide)))
            replace HO72 := Aside0.mk (Kd.R_over' (rM HO72.out) (Kd.R_typed (rM HO69.out)) (by decide) hg)
            replace HO75 := Aside0.mk (Kd.R_over' (rM HO75.out) (Kd.R_typed (rM HO69.out)) (by decide) hg)
            replace BK76 := Aside0.mk (blk_grown (kM BK76.out) hg (Kd.R_ne HO69.out BK76.out (by decide)))
            replace HO98 := Aside0.mk (Kd.R_after (ok := (fun k_ => k_ ≠ gb12)) (by (with_reducible repeat (first | apply Kd.R_alloc | apply Kd.R_drewN | apply Kd.R_drew)); exact Kd.R_mono HO98.out (fun _ hk => ⟨hk.2, hk.1.2⟩)) hg hat)
            replace HB := Aside0.mk (hb)
            have HO101 := Aside0.mk (ho)
            clear HO69
            clear ho hb hg hat
            refine hK.out _ _ ⟨(blk_cell BK76.out 0).trans rfl, (blk_cell BK76.out 1).trans rfl, (blk_cell BK76.out 2).trans rfl, (blk_cell BK12.out 0).trans rfl, (blk_cell BK12.out 1).trans rfl, (blk_cell BK12.out 2).trans rfl, (blk_cell BK12.out 3).trans rfl⟩ (fun hHeld => ?_)
            clear hK K
            refine norm_ (a' := ?_) ?_ ?_
            rotate_left
            ·show Act.put _ (some 96) _ = _
             simp only [Act.put, List.setIfInBounds_toArray, List.set_cons_zero, List.set_cons_succ, i64_w, i32_w]
             rfl
            refine pure_ (i := 10) (N := some 102) (v := ?_) (a' := ?_) #[true, true, true, true, true, true, true, true, false, false, true, false, false, false] rfl rfl (any_of HT_.out (by kernel_rfl)) (fun _ _ _ h => h) (Or.inl ⟨by rfl, ?_⟩) ?_ ?_
            rotate_left
            ·intro w'
             go_simp
             with_reducible rfl
            rotate_left
            ·simp only [Act.put, List.setIfInBounds_toArray, List.set_cons_zero, List.set_cons_succ, i64_w, i32_w]
             rfl
            refine one_ (i := 8) (N := some 100) #[true, true, true, true, true, true, true, true, true, false, true, false, false, false] rfl rfl (one_of HT_.out (by kernel_rfl)) (by decide) (fun K hK => ?_)
            refine Kd.R_lit_step (Kd.int .i64) _ 3 ?hg (N := 100) ?hd (xs := ([a2] : List Int)) (inner := [.int .i64 a2]) (ok := fun _ => True) (okp := fun _ => True) ?hr ?hp (fun _ hk => hk) trivial (Below.refl _ _) (Nat.le_refl _) (by simp) ?_; (case hd => rfl); (case hg => rfl); (case hr => first | (go_simp; done) ); (case hp => exact (Reps.one (show Kd.M (Kd.int .i64) _ _ _ a2 [.int .i64 a2] from rfl) (Reps.none _ _)))
            intro v103 w188 ho189 hb hg_ hnew_
            clear hg_ hnew_
            (rw [← Ny102.out] at ho189)
            replace HO98 := Aside0.mk (Kd.R_below (rM HO98.out) hb)
            replace HO101 := Aside0.mk (Kd.R_below (rM HO101.out) hb)
            have HO104 := Aside0.mk (Kd.R_lower (Kd.R_new' (Kd.R_new' ho189 (Kd.R_lt (rM HO72.out))) (Kd.R_lt (rM HO75.out))) (below_size (by exact wM HB.out)))
            replace HO72 := Aside0.mk (Kd.R_elder' (rM HO72.out) (Kd.R_base ho189) hb)
            replace HO75 := Aside0.mk (Kd.R_elder' (rM HO75.out) (Kd.R_base ho189) hb)
            replace BK11 := Aside0.mk (blk_below (kM BK11.out) hb)
            replace BK12 := Aside0.mk (blk_below (kM BK12.out) hb)
            replace BK13 := Aside0.mk (blk_below (kM BK13.out) hb)
            replace BK76 := Aside0.mk (blk_below (kM BK76.out) hb)
            replace HB := Aside0.mk (below_step (by exact wM HB.out) hb)
            clear hb ho189
            refine hK.out _ _ ⟨(blk_cell BK76.out 0).trans rfl, (blk_cell BK76.out 1).trans rfl, (blk_cell BK76.out 2).trans rfl, (blk_cell BK12.out 0).trans rfl, (blk_cell BK12.out 1).trans rfl, (blk_cell BK12.out 2).trans rfl, (blk_cell BK12.out 3).trans rfl⟩ (fun hHeld => ?_)
            clear hK K
            refine norm_ (a' := ?_) ?_ ?_
            rotate_left
            ·show Act.put _ (some 100) _ = _
             simp only [Act.put, List.setIfInBounds_toArray, List.set_cons_zero, List.set_cons_succ, i64_w, i32_w]
             rfl
            exact norm_ (by simp only [putAll, Act.put, List.setIfInBounds_toArray, List.set_cons_zero, List.set_cons_succ]) (hCont (.slice Ao187 y96.length co187, v100, v103) _ ⟨hHeld, (rM HO101.out), (by (with_reducible repeat (first | apply Kd.R_alloc | apply Kd.R_drewN | apply Kd.R_drew)); exact Kd.R_mono HO104.out (fun _ hk => ⟨hk.1.2, hk.2⟩)), (by (with_reducible repeat (first | apply Kd.R_alloc | apply Kd.R_drewN | apply Kd.R_drew)); exact Kd.R_mono HO72.out (fun _ hk => ⟨hk.2, hk.1⟩)), (by (with_reducible repeat (first | apply Kd.R_alloc | apply Kd.R_drewN | apply Kd.R_drew)); exact Kd.R_mono HO75.out (fun _ hk => ⟨hk.2, hk.1⟩)), (by (with_reducible repeat (first | apply Kd.R_alloc | apply Kd.R_drewN | apply Kd.R_drew)); exact Kd.R_mono HO98.out (fun _ hk => ⟨hk.2, hk.1⟩)), (kM BK11.out), (kM BK12.out), (kM BK13.out), (kM BK76.out), (by exact wM HB.out)⟩)
           ·skip
            refine Kd.R_lit_step (Kd.int .i64) _ 3 ?hg (N := 100) ?hd (xs := ([a2] : List Int)) (inner := [.int .i64 a2]) (ok := fun _ => True) (okp := fun _ => True) ?hr ?hp (fun _ hk => hk) trivial (Below.refl _ _) (Nat.le_refl _) (by simp) ?_; (case hd => rfl); (case hg => rfl); (case hr => first | (go_simp; done) ); (case hp => exact (Reps.one (show Kd.M (Kd.int .i64) _ _ _ a2 [.int .i64 a2] from rfl) (Reps.none _ _)))
            intro v103 w186 ho187 hb hg_ hnew_
            clear hg_ hnew_
            (rw [← Ny102.out] at ho187)
            replace HO69 := Aside0.mk (Kd.R_below (rM HO69.out) hb)
            replace HO98 := Aside0.mk (Kd.R_below (rM HO98.out) hb)
            have HO104 := Aside0.mk (Kd.R_lower (Kd.R_new' (Kd.R_new' ho187 (Kd.R_lt (rM HO72.out))) (Kd.R_lt (rM HO75.out))) (below_size (by exact wM HB.out)))
            replace HO72 := Aside0.mk (Kd.R_elder' (rM HO72.out) (Kd.R_base ho187) hb)
            replace HO75 := Aside0.mk (Kd.R_elder' (rM HO75.out) (Kd.R_base ho187) hb)
            replace BK11 := Aside0.mk (blk_below (kM BK11.out) hb)
            replace BK12 := Aside0.mk (blk_below (kM BK12.out) hb)
            replace BK13 := Aside0.mk (blk_below (kM BK13.out) hb)
            replace BK76 := Aside0.mk (blk_below (kM BK76.out) hb)
            replace HB := Aside0.mk (below_step (by exact wM HB.out) hb)
            clear hb ho187
            obtain ⟨Ao189, co189, eo189⟩ := Kd.R_slice HO98.out
            ((injection eo189 with f1_ f2_ f3_; have f4_ := f1_.symm; have f5_ := f3_.symm; clear f1_ f2_ f3_; subst f4_; subst f5_))
            refine hK.out _ _ ⟨(blk_cell BK76.out 0).trans rfl, (blk_cell BK76.out 1).trans rfl, (blk_cell BK76.out 2).trans rfl, (blk_cell BK12.out 0).trans rfl, (blk_cell BK12.out 1).trans rfl, (blk_cell BK12.out 2).trans rfl, (blk_cell BK12.out 3).trans rfl⟩ (fun hHeld => ?_)
            clear hK K
            refine norm_ (a' := ?_) ?_ ?_
            rotate_left
            ·show Act.put _ (some 100) _ = _
             simp only [Act.put, List.setIfInBounds_toArray, List.set_cons_zero, List.set_cons_succ, i64_w, i32_w]
             rfl
            refine one_ (i := 4) (N := some 96) #[true, true, true, true, true, true, true, true, true, false, false, false, false, false] rfl rfl (one_of HT_.out (by kernel_rfl)) (by decide) (fun K hK => ?_)
            refine Kd.R_append_rows_step k48 (w0 := w) w.heap.size (by rfl) (.tmp 93) (.tmp 95) 36 48 (.agg #[(.bool false), (.int .i64 0), (.int .i64 0), (.int .i64 0)]) 32 rfl Try.underlying36 info48 rfl (by decide) (by omega) (.slice Ao175 t67.length co175) t67 y96 _ _ _ (fun k_ => some k_ ≠ (.slice Ao189 y96.length co189 : Value).ownBlock ∧ k_ ≠ gb12) (fun _ => False) rfl rfl ?aO ?aR (fun _ _ h => h) (fun _ h => h.elim) ?aF ?aB ?aS ?aL ?_
            (case aR => exact cM (Kd.R_reads' HO98.out).2.2)
            (case aB => exact (by exact wM HB.out))
            (case aF => exact (fun k_ hk => ⟨Kd.fresh' (Kd.R_lt (rM HO98.out)) k_ hk, Kd.freshB (kM BK12.out) k_ hk⟩))
            (case aO => exact (by (with_reducible repeat (first | apply Kd.R_alloc | apply Kd.R_drewN | apply Kd.R_drew)); exact Kd.R_mono HO69.out (fun _ hk => ⟨hk.2, hk.1⟩)))
            (case aS => exact (below_size (by exact wM HB.out)))
            (case aL => have := LMc167.out; omega)
            intro v100 w188 ho hb hg hat
            rw [← Ny99.out] at ho
            replace BK11 := Aside0.mk (blk_grown (kM BK11.out) hg (Kd.R_ne HO69.out BK11.out (by decide)))
            replace BK12 := Aside0.mk (blk_grown (kM BK12.out) hg (Kd.R_away HO69.out (fun _ hk => hk.1)))
            replace BK13 := Aside0.mk (blk_grown (kM BK13.out) hg (Kd.R_ne HO69.out BK13.out (by decide)))
            replace HO72 := Aside0.mk (Kd.R_over' (rM HO72.out) (Kd.R_typed (rM HO69.out)) (by decide) hg)
            replace HO75 := Aside0.mk (Kd.R_over' (rM HO75.out) (Kd.R_typed (rM HO69.out)) (by decide) hg)
            replace BK76 := Aside0.mk (blk_grown (kM BK76.out) hg (Kd.R_ne HO69.out BK76.out (by decide)))
            replace HO98 := Aside0.mk (Kd.R_after (ok := (fun k_ => k_ ≠ gb12)) (by (with_reducible repeat (first | apply Kd.R_alloc | apply Kd.R_drewN | apply Kd.R_drew)); exact Kd.R_mono HO98.out (fun _ hk => ⟨hk.2, hk.1.2⟩)) hg hat)
            replace HO104 := Aside0.mk (Kd.R_over' (rM HO104.out) (Kd.R_typed (rM HO69.out)) (by decide) hg)
            replace HB := Aside0.mk (hb)
            have HO101 := Aside0.mk (ho)
            clear HO69
            clear ho hb hg hat
            refine hK.out _ _ ⟨(blk_cell BK76.out 0).trans rfl, (blk_cell BK76.out 1).trans rfl, (blk_cell BK76.out 2).trans rfl, (blk_cell BK12.out 0).trans rfl, (blk_cell BK12.out 1).trans rfl, (blk_cell BK12.out 2).trans rfl, (blk_cell BK12.out 3).trans rfl⟩ (fun hHeld => ?_)
            clear hK K
            refine norm_ (a' := ?_) ?_ ?_
            rotate_left
            ·show Act.put _ (some 96) _ = _
             simp only [Act.put, List.setIfInBounds_toArray, List.set_cons_zero, List.set_cons_succ, i64_w, i32_w]
             rfl
            refine pure_ (i := 10) (N := some 102) (v := ?_) (a' := ?_) #[true, true, true, true, true, true, true, true, true, false, true, false, false, false] rfl rfl (any_of HT_.out (by kernel_rfl)) (fun _ _ _ h => h) (Or.inl ⟨by rfl, ?_⟩) ?_ ?_
            rotate_left
            ·intro w'
             go_simp
             with_reducible rfl
            rotate_left
            ·simp only [Act.put, List.setIfInBounds_toArray, List.set_cons_zero, List.set_cons_succ, i64_w, i32_w]
             rfl
            exact norm_ (by simp only [putAll, Act.put, List.setIfInBounds_toArray, List.set_cons_zero, List.set_cons_succ]) (hCont (.slice Ao189 y96.length co189, v100, v103) _ ⟨hHeld, (rM HO101.out), (by (with_reducible repeat (first | apply Kd.R_alloc | apply Kd.R_drewN | apply Kd.R_drew)); exact Kd.R_mono HO104.out (fun _ hk => ⟨hk.1.2, hk.2⟩)), (by (with_reducible repeat (first | apply Kd.R_alloc | apply Kd.R_drewN | apply Kd.R_drew)); exact Kd.R_mono HO72.out (fun _ hk => ⟨hk.2, hk.1⟩)), (by (with_reducible repeat (first | apply Kd.R_alloc | apply Kd.R_drewN | apply Kd.R_drew)); exact Kd.R_mono HO75.out (fun _ hk => ⟨hk.2, hk.1⟩)), (by (with_reducible repeat (first | apply Kd.R_alloc | apply Kd.R_drewN | apply Kd.R_drew)); exact Kd.R_mono HO98.out (fun _ hk => ⟨hk.2, hk.1⟩)), (kM BK11.out), (kM BK12.out), (kM BK13.out), (kM BK76.out), (by exact wM HB.out)⟩)
          ·skip
           refine Kd.R_lit_step (Kd.int .i64) _ 3 ?hg (N := 100) ?hd (xs := ([a2] : List Int)) (inner := [.int .i64 a2]) (ok := fun _ => True) (okp := fun _ => True) ?hr ?hp (fun _ hk => hk) trivial (Below.refl _ _) (Nat.le_refl _) (by simp) ?_; (case hd => rfl); (case hg => rfl); (case hr => first | (go_simp; done) ); (case hp => exact (Reps.one (show Kd.M (Kd.int .i64) _ _ _ a2 [.int .i64 a2] from rfl) (Reps.none _ _)))
           intro v103 w184 ho185 hb hg_ hnew_
           clear hg_ hnew_
           (rw [← Ny102.out] at ho185)
           replace HO69 := Aside0.mk (Kd.R_below (rM HO69.out) hb)
           have HO104 := Aside0.mk (Kd.R_lower (Kd.R_new' (Kd.R_new' ho185 (Kd.R_lt (rM HO72.out))) (Kd.R_lt (rM HO75.out))) (below_size (by exact wM HB.out)))
           replace HO72 := Aside0.mk (Kd.R_elder' (rM HO72.out) (Kd.R_base ho185) hb)
           replace HO75 := Aside0.mk (Kd.R_elder' (rM HO75.out) (Kd.R_base ho185) hb)
           replace BK11 := Aside0.mk (blk_below (kM BK11.out) hb)
           replace BK12 := Aside0.mk (blk_below (kM BK12.out) hb)
           replace BK13 := Aside0.mk (blk_below (kM BK13.out) hb)
           replace BK76 := Aside0.mk (blk_below (kM BK76.out) hb)
           replace HB := Aside0.mk (below_step (by exact wM HB.out) hb)
           clear hb ho185
           refine hK.out _ _ ⟨(blk_cell BK76.out 0).trans rfl, (blk_cell BK76.out 1).trans rfl, (blk_cell BK76.out 2).trans rfl, (blk_cell BK12.out 0).trans rfl, (blk_cell BK12.out 1).trans rfl, (blk_cell BK12.out 2).trans rfl, (blk_cell BK12.out 3).trans rfl⟩ (fun hHeld => ?_)
           clear hK K
           refine norm_ (a' := ?_) ?_ ?_
           rotate_left
           ·show Act.put _ (some 100) _ = _
            simp only [Act.put, List.setIfInBounds_toArray, List.set_cons_zero, List.set_cons_succ, i64_w, i32_w]
            rfl
           refine one_ (i := 3) (N := some 95) #[true, true, true, true, false, true, true, true, true, false, false, false, false, false] rfl rfl (one_of HT_.out (by kernel_rfl)) (by decide) (fun K hK => ?_)
           refine Kd.R_lit_step k48 _ 48 ?hg (N := 95) ?hd (xs := ([(⟨a1_0, a1_1, a1_2, a1_3⟩ : S48)] : List (S48))) (inner := [.bool a1_0, .int .i64 a1_1, .int .i64 a1_2, .int .i64 a1_3]) (ok := fun _ => True) (okp := fun _ => True) ?hr ?hp (fun _ hk => hk) trivial (Below.refl _ _) (Nat.le_refl _) (by simp) ?_; (case hd => rfl); (case hg => rfl); (case hr => first | (go_simp; done) ); (case hp => exact (Reps.c4 (show Kd.M k48 _ _ _ (⟨a1_0, a1_1, a1_2, a1_3⟩ : S48) [.bool a1_0, .int .i64 a1_1, .int .i64 a1_2, .int .i64 a1_3] from (k48_mkM _ _ _ (⟨a1_0, a1_1, a1_2, a1_3⟩ : S48) )) (Reps.none _ _)))
           intro v97 w186 ho187 hb hg_ hnew_
           clear hg_ hnew_
           (rw [← Ny96.out] at ho187)
           replace HO72 := Aside0.mk (Kd.R_below (rM HO72.out) hb)
           replace HO75 := Aside0.mk (Kd.R_below (rM HO75.out) hb)
           replace HO104 := Aside0.mk (Kd.R_below (rM HO104.out) hb)
           have HO98 := Aside0.mk (Kd.R_lower (Kd.R_newB (Kd.R_new' ho187 (Kd.R_lt (rM HO69.out))) (kM BK12.out)) (below_size (by exact wM HB.out)))
           replace HO69 := Aside0.mk (Kd.R_elder' (rM HO69.out) (Kd.R_base ho187) hb)
           replace BK11 := Aside0.mk (blk_below (kM BK11.out) hb)
           replace BK12 := Aside0.mk (blk_below (kM BK12.out) hb)
           replace BK13 := Aside0.mk (blk_below (kM BK13.out) hb)
           replace BK76 := Aside0.mk (blk_below (kM BK76.out) hb)
           replace HB := Aside0.mk (below_step (by exact wM HB.out) hb)
           clear hb ho187
           obtain ⟨Ao189, co189, eo189⟩ := Kd.R_slice HO98.out
           (subst eo189)
           refine hK.out _ _ ⟨(blk_cell BK76.out 0).trans rfl, (blk_cell BK76.out 1).trans rfl, (blk_cell BK76.out 2).trans rfl, (blk_cell BK12.out 0).trans rfl, (blk_cell BK12.out 1).trans rfl, (blk_cell BK12.out 2).trans rfl, (blk_cell BK12.out 3).trans rfl⟩ (fun hHeld => ?_)
           clear hK K
           refine norm_ (a' := ?_) ?_ ?_
           rotate_left
           ·show Act.put _ (some 95) _ = _
            simp only [Act.put, List.setIfInBounds_toArray, List.set_cons_zero, List.set_cons_succ, i64_w, i32_w]
            rfl
           refine one_ (i := 4) (N := some 96) #[true, true, true, true, true, true, true, true, true, false, false, false, false, false] rfl rfl (one_of HT_.out (by kernel_rfl)) (by decide) (fun K hK => ?_)
           refine Kd.R_append_rows_step k48 (w0 := w) w.heap.size (by rfl) (.tmp 93) (.tmp 95) 36 48 (.agg #[(.bool false), (.int .i64 0), (.int .i64 0), (.int .i64 0)]) 32 rfl Try.underlying36 info48 rfl (by decide) (by omega) (.slice Ao175 t67.length co175) t67 y96 _ _ _ (fun k_ => some k_ ≠ (.slice Ao189 y96.length co189 : Value).ownBlock ∧ k_ ≠ gb12) (fun _ => False) rfl rfl ?aO ?aR (fun _ _ h => h) (fun _ h => h.elim) ?aF ?aB ?aS ?aL ?_
           (case aR => exact cM (Kd.R_reads' HO98.out).2.2)
           (case aB => exact (by exact wM HB.out))
           (case aF => exact (fun k_ hk => ⟨Kd.fresh' (Kd.R_lt (rM HO98.out)) k_ hk, Kd.freshB (kM BK12.out) k_ hk⟩))
           (case aO => exact (by (with_reducible repeat (first | apply Kd.R_alloc | apply Kd.R_drewN | apply Kd.R_drew)); exact Kd.R_mono HO69.out (fun _ hk => ⟨hk.2, hk.1⟩)))
           (case aS => exact (below_size (by exact wM HB.out)))
           (case aL => have := LMc167.out; omega)
           intro v100 w188 ho hb hg hat
           rw [← Ny99.out] at ho
           replace BK11 := Aside0.mk (blk_grown (kM BK11.out) hg (Kd.R_ne HO69.out BK11.out (by decide)))
           replace BK12 := Aside0.mk (blk_grown (kM BK12.out) hg (Kd.R_away HO69.out (fun _ hk => hk.1)))
           replace BK13 := Aside0.mk (blk_grown (kM BK13.out) hg (Kd.R_ne HO69.out BK13.out (by decide)))
           replace HO72 := Aside0.mk (Kd.R_over' (rM HO72.out) (Kd.R_typed (rM HO69.out)) (by decide) hg)
           replace HO75 := Aside0.mk (Kd.R_over' (rM HO75.out) (Kd.R_typed (rM HO69.out)) (by decide) hg)
           replace BK76 := Aside0.mk (blk_grown (kM BK76.out) hg (Kd.R_ne HO69.out BK76.out (by decide)))
           replace HO104 := Aside0.mk (Kd.R_over' (rM HO104.out) (Kd.R_typed (rM HO69.out)) (by decide) hg)
           replace HO98 := Aside0.mk (Kd.R_after (ok := (fun k_ => k_ ≠ gb12)) (by (with_reducible repeat (first | apply Kd.R_alloc | apply Kd.R_drewN | apply Kd.R_drew)); exact Kd.R_mono HO98.out (fun _ hk => ⟨hk.2, hk.1.2⟩)) hg hat)
           replace HB := Aside0.mk (hb)
           have HO101 := Aside0.mk (ho)
           clear HO69
           clear ho hb hg hat
           refine hK.out _ _ ⟨(blk_cell BK76.out 0).trans rfl, (blk_cell BK76.out 1).trans rfl, (blk_cell BK76.out 2).trans rfl, (blk_cell BK12.out 0).trans rfl, (blk_cell BK12.out 1).trans rfl, (blk_cell BK12.out 2).trans rfl, (blk_cell BK12.out 3).trans rfl⟩ (fun hHeld => ?_)
           clear hK K
           refine norm_ (a' := ?_) ?_ ?_
           rotate_left
           ·show Act.put _ (some 96) _ = _
            simp only [Act.put, List.setIfInBounds_toArray, List.set_cons_zero, List.set_cons_succ, i64_w, i32_w]
            rfl
           refine pure_ (i := 10) (N := some 102) (v := ?_) (a' := ?_) #[true, true, true, true, true, true, true, true, true, false, true, false, false, false] rfl rfl (any_of HT_.out (by kernel_rfl)) (fun _ _ _ h => h) (Or.inl ⟨by rfl, ?_⟩) ?_ ?_
           rotate_left
           ·intro w'
            go_simp
            with_reducible rfl
           rotate_left
           ·simp only [Act.put, List.setIfInBounds_toArray, List.set_cons_zero, List.set_cons_succ, i64_w, i32_w]
            rfl
           exact norm_ (by simp only [putAll, Act.put, List.setIfInBounds_toArray, List.set_cons_zero, List.set_cons_succ]) (hCont (.slice Ao189 y96.length co189, v100, v103) _ ⟨hHeld, (rM HO101.out), (by (with_reducible repeat (first | apply Kd.R_alloc | apply Kd.R_drewN | apply Kd.R_drew)); exact Kd.R_mono HO104.out (fun _ hk => ⟨hk.1.2, hk.2⟩)), (by (with_reducible repeat (first | apply Kd.R_alloc | apply Kd.R_drewN | apply Kd.R_drew)); exact Kd.R_mono HO72.out (fun _ hk => ⟨hk.2, hk.1⟩)), (by (with_reducible repeat (first | apply Kd.R_alloc | apply Kd.R_drewN | apply Kd.R_drew)); exact Kd.R_mono HO75.out (fun _ hk => ⟨hk.2, hk.1⟩)), (by (with_reducible repeat (first | apply Kd.R_alloc | apply Kd.R_drewN | apply Kd.R_drew)); exact Kd.R_mono HO98.out (fun _ hk => ⟨hk.2, hk.1⟩)), (kM BK11.out), (kM BK12.out), (kM BK13.out), (kM BK76.out), (by exact wM HB.out)⟩)
         rintro ⟨v97, v100, v103⟩ w190 ⟨hS_, h0_, h1_, h2_, h3_, h4_, h5_, h6_, h7_, h8_, h9_⟩
         have n0_ : Aside0 (Kd.R k48 48 w190 w.heap.size (fun k_ => some k_ ≠ (v97 : Value).ownBlock ∧ k_ ≠ gb12) v100 y99) := ⟨h0_⟩
         have n1_ : Aside0 (Kd.R (Kd.int .i64) 3 w190 w.heap.size (fun k_ => some k_ ≠ (.slice Ao180 t70.length co180 : Value).ownBlock ∧ some k_ ≠ (.slice Ao181 t73.length co181 : Value).ownBlock) v103 y102) := ⟨h1_⟩
         have n2_ : Aside0 (Kd.R (Kd.int .i64) 3 w190 w.heap.size (fun k_ => some k_ ≠ (v103 : Value).ownBlock ∧ some k_ ≠ (.slice Ao181 t73.length co181 : Value).ownBlock) (.slice Ao180 t70.length co180) t70) := ⟨h2_⟩
         have n3_ : Aside0 (Kd.R (Kd.int .i64) 3 w190 w.heap.size (fun k_ => some k_ ≠ (v103 : Value).ownBlock ∧ some k_ ≠ (.slice Ao180 t70.length co180 : Value).ownBlock) (.slice Ao181 t73.length co181) t73) := ⟨h3_⟩
         have n4_ : Aside0 (Kd.R k48 48 w190 w.heap.size (fun k_ => some k_ ≠ (v100 : Value).ownBlock ∧ k_ ≠ gb12) v97 y96) := ⟨h4_⟩
         have n5_ : Aside0 (w190.heap[gb11]? = some (.cells #[.slice A0_0 l0_0.length c0_0, .slice A0_1 l0_1.length c0_1, .slice A0_2 l0_2.length c0_2] 38 (0, 0))) := ⟨h5_⟩
         have n6_ : Aside0 (w190.heap[gb12]? = some (.cells #[.bool a1_0, .int .i64 a1_1, .int .i64 a1_2, .int .i64 a1_3] 48 (0, 0))) := ⟨h6_⟩
         have n7_ : Aside0 (w190.heap[gb13]? = some (.cells #[.slice none 0 0, .slice none 0 0, .slice none 0 0] 38 (0, 0))) := ⟨h7_⟩
         have n8_ : Aside0 (w190.heap[gb76]? = some (.cells #[.slice Ao175 t67.length co175, .slice Ao180 t70.length co180, .slice Ao181 t73.length co181] 38 (0, 0))) := ⟨h8_⟩
         have n9_ : Aside0 (Below w.heap.size w w190) := ⟨h9_⟩
         clear HO69
         clear HO72
         clear HO75
         clear BK11
         clear BK12
         clear BK13
         clear BK76
         clear HB
         clear h0_ h1_ h2_ h3_ h4_ h5_ h6_ h7_ h8_ h9_
         have HO101 := n0_
         have HO104 := n1_
         have HO72 := n2_
         have HO75 := n3_
         have HO98 := n4_
         have BK11 := n5_
         have BK12 := n6_
         have BK13 := n7_
         have BK76 := n8_
         have HB := n9_
         clear n0_ n1_ n2_ n3_ n4_ n5_ n6_ n7_ n8_ n9_
         have hHeld : w190.cell? ⟨gb76, 0, none⟩ = some (.slice Ao175 t67.length co175) ∧ w190.cell? ⟨gb76, 1, none⟩ = some (.slice Ao180 t70.length co180) ∧ w190.cell? ⟨gb76, 2, none⟩ = some (.slice Ao181 t73.length co181) ∧ w190.cell? ⟨gb12, 0, none⟩ = some (.bool a1_0) ∧ w190.cell? ⟨gb12, 1, none⟩ = some (.int .i64 a1_1) ∧ w190.cell? ⟨gb12, 2, none⟩ = some (.int .i64 a1_2) ∧ w190.cell? ⟨gb12, 3, none⟩ = some (.int .i64 a1_3) := hS_
         obtain ⟨Ao192, co192, eo192⟩ := Kd.R_slice HO104.out
         (subst eo192)
         refine norm_ (a' := ?_) ?_ ?_
         rotate_left
         ·simp only [putAll, Act.put, List.setIfInBounds_toArray, List.set_cons_zero, List.set_cons_succ]
          rfl
         refine one_ (i := 9) (N := some 101) #[true, true, true, true, true, true, true, true, true, true, true, false, false, false] rfl rfl (one_of HT_.out (by kernel_rfl)) (by decide) (fun K hK => ?_)
         refine Kd.R_append_rows_step (Kd.int .i64) (w0 := w) w.heap.size (by rfl) (.tmp 98) (.tmp 100) 22 3 (.int .i64 0) 8 rfl Try.underlying22 info3 rfl (by decide) (by omega) (.slice Ao180 t70.length co180) t70 y102 _ _ _ (fun k_ => some k_ ≠ (.slice Ao181 t73.length co181 : Value).ownBlock ∧ some k_ ≠ (.slice Ao192 y102.length co192 : Value).ownBlock) (fun _ => False) rfl rfl ?aO ?aR (fun _ _ h => h) (fun _ h => h.elim) ?aF ?aB ?aS ?aL ?_
         (case aR => exact cM (Kd.R_reads' HO104.out).2.2)
         (case aB => exact (by exact wM HB.out))
         (case aF => exact (fun k_ hk => ⟨Kd.fresh' (Kd.R_lt (rM HO75.out)) k_ hk, Kd.fresh' (Kd.R_lt (rM HO104.out)) k_ hk⟩))
         (case aO => exact (by (with_reducible repeat (first | apply Kd.R_alloc | apply Kd.R_drewN | apply Kd.R_drew)); exact Kd.R_mono HO72.out (fun _ hk => ⟨hk.2, hk.1⟩)))
         (case aS => exact (below_size (by exact wM HB.out)))
         (case aL => have := LMc168.out; omega)
         intro v106 w191 ho hb hg hat
         rw [← Ny105.out] at ho
         replace BK11 := Aside0.mk (blk_grown (kM BK11.out) hg (Kd.R_ne HO72.out BK11.out (by decide)))
         replace BK12 := Aside0.mk (blk_grown (kM BK12.out) hg (Kd.R_ne HO72.out BK12.out (by decide)))
         replace BK13 := Aside0.mk (blk_grown (kM BK13.out) hg (Kd.R_ne HO72.out BK13.out (by decide)))
         replace HO75 := Aside0.mk (Kd.R_after (ok := (fun k_ => some k_ ≠ (.slice Ao192 y102.length co192 : Value).ownBlock)) (rM HO75.out) hg hat)
         replace BK76 := Aside0.mk (blk_grown (kM BK76.out) hg (Kd.R_ne HO72.out BK76.out (by decide)))
         replace HO98 := Aside0.mk (Kd.R_over' (rM HO98.out) (Kd.R_typed (rM HO72.out)) (by decide) hg)
         replace HO101 := Aside0.mk (Kd.R_over' (rM HO101.out) (Kd.R_typed (rM HO72.out)) (by decide) hg)
         replace HO104 := Aside0.mk (Kd.R_after (ok := (fun k_ => some k_ ≠ (.slice Ao181 t73.length co181 : Value).ownBlock)) (by (with_reducible repeat (first | apply Kd.R_alloc | apply Kd.R_drewN | apply Kd.R_drew)); exact Kd.R_mono HO104.out (fun _ hk => ⟨hk.2, hk.1⟩)) hg hat)
         replace HB := Aside0.mk (hb)
         have HO107 := Aside0.mk (ho)
         clear HO72
         clear ho hb hg hat
         obtain ⟨Ao193, co193, eo193⟩ := Kd.R_slice HO101.out
         (subst eo193)
         obtain ⟨Ao195, co195, eo195⟩ := Kd.R_slice HO107.out
         (subst eo195)
         refine hK.out _ _ ⟨(blk_cell BK76.out 0).trans rfl, (blk_cell BK76.out 1).trans rfl, (blk_cell BK76.out 2).trans rfl, (blk_cell BK12.out 0).trans rfl, (blk_cell BK12.out 1).trans rfl, (blk_cell BK12.out 2).trans rfl, (blk_cell BK12.out 3).trans rfl⟩ (fun hHeld => ?_)
         clear hK K
         refine norm_ (a' := ?_) ?_ ?_
         rotate_left
         ·show Act.put _ (some 101) _ = _
          simp only [Act.put, List.setIfInBounds_toArray, List.set_cons_zero, List.set_cons_succ, i64_w, i32_w]
          rfl
         refine last_ (i := 11) (N := none) #[true, true, true, true, true, true, true, true, true, true, true, true, false, false] rfl rfl (one_of HT_.out (by kernel_rfl)) (by decide) (fun K hK => ?_)
         have hs194 : w191.cell? ⟨gb76, 0, none⟩ = some (.slice Ao175 t67.length co175) := (blk_cell BK76.out 0).trans rfl
         have hfs194 := blk_frozen BK76.out 0
         have hns194_0 := NB11_76.out
         have hns194_1 := NB12_76.out
         have hns194_2 := NB13_76.out
         have hms194_0 := NB76_11.out
         have hms194_1 := NB76_12.out
         have hms194_2 := NB76_13.out
         refine skip_ (w1 := ?_) (by rfl) rfl ?_ ?_
         rotate_left
         ·go_simp
          rfl
         refine hK.out _ _ ?_
         clear hK K
         refine pure_ (i := 12) (N := some 103) (v := ?_) (a' := ?_) #[true, true, true, true, true, true, true, true, true, true, true, true, true, false] rfl rfl (any_of HT_.out (by kernel_rfl)) (fun _ _ _ h => h) (Or.inl ⟨by rfl, ?_⟩) ?_ ?_
         rotate_left
         ·intro w'
          go_simp
          with_reducible rfl
         rotate_left
         ·simp only [Act.put, List.setIfInBounds_toArray, List.set_cons_zero, List.set_cons_succ, i64_w, i32_w]
          rfl
         refine last_ (i := 13) (N := none) #[true, true, true, true, true, true, true, true, true, true, true, true, true, true] rfl rfl (one_of HT_.out (by kernel_rfl)) (by decide) (fun K hK => ?_)
         have hs196 : w191.cell? ⟨gb76, 1, none⟩ = some (.slice Ao180 t70.length co180) := (blk_cell BK76.out 1).trans rfl
         have hfs196 := blk_frozen BK76.out 1
         have hns196_0 := NB11_76.out
         have hns196_1 := NB12_76.out
         have hns196_2 := NB13_76.out
         have hms196_0 := NB76_11.out
         have hms196_1 := NB76_12.out
         have hms196_2 := NB76_13.out
         refine skip_ (w1 := ?_) (by rfl) rfl ?_ ?_
         rotate_left
         ·go_simp
          rfl
         refine hK.out _ _ ?_
         clear hK K
         refine done_ (done_of HT_.out (by kernel_rfl)) ?_
         try go_wp2
         have n0_ : Aside0 (Kd.R (Kd.int .i64) 3 ((w191.setCell ⟨gb76, 0, none⟩ (.slice Ao193 y99.length co193)).setCell ⟨gb76, 1, none⟩ (.slice Ao195 y105.length co195)) w.heap.size (fun k_ => some k_ ≠ (.slice Ao192 y102.length co192 : Value).ownBlock ∧ some k_ ≠ (.slice Ao195 y105.length co195 : Value).ownBlock) (.slice Ao181 t73.length co181) t73) := ⟨by (with_reducible repeat (first | apply Kd.R_alloc | apply Kd.R_drewN | apply Kd.R_drew)); exact Kd.R_mono (Kd.R_far (p := ⟨gb76, 1, none⟩) (Kd.R_far (p := ⟨gb76, 0, none⟩) (Kd.R_types HO75.out BK76.out (by decide)) (fun _ hk => hk.2) (.slice Ao193 y99.length co193)) (fun _ hk => hk.2) (.slice Ao195 y105.length co195)) (fun _ hk => ⟨hk.1.1, hk.1.2⟩)⟩
         have n1_ : Aside0 (Kd.R k48 48 ((w191.setCell ⟨gb76, 0, none⟩ (.slice Ao193 y99.length co193)).setCell ⟨gb76, 1, none⟩ (.slice Ao195 y105.length co195)) w.heap.size (fun k_ => some k_ ≠ (.slice Ao193 y99.length co193 : Value).ownBlock ∧ k_ ≠ gb12) v97 y96) := ⟨by (with_reducible repeat (first | apply Kd.R_alloc | apply Kd.R_drewN | apply Kd.R_drew)); exact Kd.R_mono (Kd.R_far (p := ⟨gb76, 1, none⟩) (Kd.R_far (p := ⟨gb76, 0, none⟩) (Kd.R_types HO98.out BK76.out (by decide)) (fun _ hk => hk.2) (.slice Ao193 y99.length co193)) (fun _ hk => hk.2) (.slice Ao195 y105.length co195)) (fun _ hk => ⟨hk.1.1, hk.1.2⟩)⟩
         have n2_ : Aside0 (Kd.R k48 48 ((w191.setCell ⟨gb76, 0, none⟩ (.slice Ao193 y99.length co193)).setCell ⟨gb76, 1, none⟩ (.slice Ao195 y105.length co195)) w.heap.size (fun k_ => some k_ ≠ (v97 : Value).ownBlock ∧ k_ ≠ gb12) (.slice Ao193 y99.length co193) y99) := ⟨by (with_reducible repeat (first | apply Kd.R_alloc | apply Kd.R_drewN | apply Kd.R_drew)); exact Kd.R_mono (Kd.R_far (p := ⟨gb76, 1, none⟩) (Kd.R_far (p := ⟨gb76, 0, none⟩) (Kd.R_types HO101.out BK76.out (by decide)) (fun _ hk => hk.2) (.slice Ao193 y99.length co193)) (fun _ hk => hk.2) (.slice Ao195 y105.length co195)) (fun _ hk => ⟨hk.1.1, hk.1.2⟩)⟩
         have n3_ : Aside0 (Kd.R (Kd.int .i64) 3 ((w191.setCell ⟨gb76, 0, none⟩ (.slice Ao193 y99.length co193)).setCell ⟨gb76, 1, none⟩ (.slice Ao195 y105.length co195)) w.heap.size (fun k_ => some k_ ≠ (.slice Ao181 t73.length co181 : Value).ownBlock ∧ some k_ ≠ (.slice Ao195 y105.length co195 : Value).ownBlock) (.slice Ao192 y102.length co192) y102) := ⟨by (with_reducible repeat (first | apply Kd.R_alloc | apply Kd.R_drewN | apply Kd.R_drew)); exact Kd.R_mono (Kd.R_far (p := ⟨gb76, 1, none⟩) (Kd.R_far (p := ⟨gb76, 0, none⟩) (Kd.R_types HO104.out BK76.out (by decide)) (fun _ hk => hk.2) (.slice Ao193 y99.length co193)) (fun _ hk => hk.2) (.slice Ao195 y105.length co195)) (fun _ hk => ⟨hk.1.1, hk.1.2⟩)⟩
         have n4_ : Aside0 (Kd.R (Kd.int .i64) 3 ((w191.setCell ⟨gb76, 0, none⟩ (.slice Ao193 y99.length co193)).setCell ⟨gb76, 1, none⟩ (.slice Ao195 y105.length co195)) w.heap.size (fun k_ => some k_ ≠ (.slice Ao181 t73.length co181 : Value).ownBlock ∧ some k_ ≠ (.slice Ao192 y102.length co192 : Value).ownBlock) (.slice Ao195 y105.length co195) y105) := ⟨by (with_reducible repeat (first | apply Kd.R_alloc | apply Kd.R_drewN | apply Kd.R_drew)); exact Kd.R_mono (Kd.R_far (p := ⟨gb76, 1, none⟩) (Kd.R_far (p := ⟨gb76, 0, none⟩) (Kd.R_types HO107.out BK76.out (by decide)) (fun _ hk => hk.2) (.slice Ao193 y99.length co193)) (fun _ hk => hk.2) (.slice Ao195 y105.length co195)) (fun _ hk => ⟨hk.1.1, hk.1.2⟩)⟩
         have n5_ : Aside0 (((w191.setCell ⟨gb76, 0, none⟩ (.slice Ao193 y99.length co193)).setCell ⟨gb76, 1, none⟩ (.slice Ao195 y105.length co195)).heap[gb11]? = some (.cells #[.slice A0_0 l0_0.length c0_0, .slice A0_1 l0_1.length c0_1, .slice A0_2 l0_2.length c0_2] 38 (0, 0))) := ⟨by (with_reducible repeat (first | refine blk_drewN ?_ _ | refine blk_drew ?_ | refine blk_alloc ?_ _)); refine blk_far ?_ NB11_76.out _; (with_reducible repeat (first | refine blk_drewN ?_ _ | refine blk_drew ?_ | refine blk_alloc ?_ _)); refine blk_far ?_ NB11_76.out _; (with_reducible repeat (first | refine blk_drewN ?_ _ | refine blk_drew ?_ | refine blk_alloc ?_ _)); exact BK11.out⟩
         have n6_ : Aside0 (((w191.setCell ⟨gb76, 0, none⟩ (.slice Ao193 y99.length co193)).setCell ⟨gb76, 1, none⟩ (.slice Ao195 y105.length co195)).heap[gb12]? = some (.cells #[.bool a1_0, .int .i64 a1_1, .int .i64 a1_2, .int .i64 a1_3] 48 (0, 0))) := ⟨by (with_reducible repeat (first | refine blk_drewN ?_ _ | refine blk_drew ?_ | refine blk_alloc ?_ _)); refine blk_far ?_ NB12_76.out _; (with_reducible repeat (first | refine blk_drewN ?_ _ | refine blk_drew ?_ | refine blk_alloc ?_ _)); refine blk_far ?_ NB12_76.out _; (with_reducible repeat (first | refine blk_drewN ?_ _ | refine blk_drew ?_ | refine blk_alloc ?_ _)); exact BK12.out⟩
         have n7_ : Aside0 (((w191.setCell ⟨gb76, 0, none⟩ (.slice Ao193 y99.length co193)).setCell ⟨gb76, 1, none⟩ (.slice Ao195 y105.length co195)).heap[gb13]? = some (.cells #[.slice none 0 0, .slice none 0 0, .slice none 0 0] 38 (0, 0))) := ⟨by (with_reducible repeat (first | refine blk_drewN ?_ _ | refine blk_drew ?_ | refine blk_alloc ?_ _)); refine blk_far ?_ NB13_76.out _; (with_reducible repeat (first | refine blk_drewN ?_ _ | refine blk_drew ?_ | refine blk_alloc ?_ _)); refine blk_far ?_ NB13_76.out _; (with_reducible repeat (first | refine blk_drewN ?_ _ | refine blk_drew ?_ | refine blk_alloc ?_ _)); exact BK13.out⟩
         have n8_ : Aside0 (((w191.setCell ⟨gb76, 0, none⟩ (.slice Ao193 y99.length co193)).setCell ⟨gb76, 1, none⟩ (.slice Ao195 y105.length co195)).heap[gb76]? = some (.cells #[.slice Ao193 y99.length co193, .slice Ao195 y105.length co195, .slice Ao181 t73.length co181] 38 (0, 0))) := ⟨by (with_reducible repeat (first | refine blk_drewN ?_ _ | refine blk_drew ?_ | refine blk_alloc ?_ _)); refine blk_put (cs := #[.slice Ao193 y99.length co193, .slice Ao180 t70.length co180, .slice Ao181 t73.length co181]) ?_ 1 _ rfl; (with_reducible repeat (first | refine blk_drewN ?_ _ | refine blk_drew ?_ | refine blk_alloc ?_ _)); refine blk_put (cs := #[.slice Ao175 t67.length co175, .slice Ao180 t70.length co180, .slice Ao181 t73.length co181]) ?_ 0 _ rfl; (with_reducible repeat (first | refine blk_drewN ?_ _ | refine blk_drew ?_ | refine blk_alloc ?_ _)); exact BK76.out⟩
         have n9_ : Aside0 (Below w.heap.size w ((w191.setCell ⟨gb76, 0, none⟩ (.slice Ao193 y99.length co193)).setCell ⟨gb76, 1, none⟩ (.slice Ao195 y105.length co195))) := ⟨by repeat ((with_reducible first | exact HB.out | refine below_set ?_ GE76.out))⟩
         (try clear HO75)
         (try clear HO98)
         (try clear HO101)
         (try clear HO104)
         (try clear HO107)
         (try clear BK11)
         (try clear BK12)
         (try clear BK13)
         (try clear BK76)
         (try clear HB)
         generalize ((w191.setCell ⟨gb76, 0, none⟩ (.slice Ao193 y99.length co193)).setCell ⟨gb76, 1, none⟩ (.slice Ao195 y105.length co195)) = w197 at n0_ n1_ n2_ n3_ n4_ n5_ n6_ n7_ n8_ n9_ ⊢
         have HO75 := n0_
         have HO98 := n1_
         have HO101 := n2_
         have HO104 := n3_
         have HO107 := n4_
         have BK11 := n5_
         have BK12 := n6_
         have BK13 := n7_
         have BK76 := n8_
         have HB := n9_
         clear n0_ n1_ n2_ n3_ n4_ n5_ n6_ n7_ n8_ n9_
         replace HO75 := Aside0.mk (Kd.R_drew HO75.out)
         replace HO98 := Aside0.mk (Kd.R_drew HO98.out)
         replace HO101 := Aside0.mk (Kd.R_drew HO101.out)
         replace HO104 := Aside0.mk (Kd.R_drew HO104.out)
         replace HO107 := Aside0.mk (Kd.R_drew HO107.out)
         replace BK11 := Aside0.mk (blk_drew BK11.out)
         replace BK12 := Aside0.mk (blk_drew BK12.out)
         replace BK13 := Aside0.mk (blk_drew BK13.out)
         replace BK76 := Aside0.mk (blk_drew BK76.out)
         replace HB := Aside0.mk (below_drew1 HB.out)
         refine start_ (n := 7) (S := fun w' => w'.cell? ⟨gb76, 0, none⟩ = some (.slice Ao193 y99.length co193) ∧ w'.cell? ⟨gb76, 1, none⟩ = some (.slice Ao195 y105.length co195) ∧ w'.cell? ⟨gb76, 2, none⟩ = some (.slice Ao181 t73.length co181)) (ds := []) #[false, false, false, false, false, false, false] (by kernel_rfl) rfl rfl ⟨(blk_cell BK76.out 0).trans rfl, (blk_cell BK76.out 1).trans rfl, (blk_cell BK76.out 2).trans rfl⟩ (fun hHeld => ?_)
         generalize w197.drew = w198 at HO75 HO98 HO101 HO104 HO107 BK11 BK12 BK13 BK76 HB hHeld ⊢
         refine pure_ (i := 2) (N := some 106) (v := ?_) (a' := ?_) #[false, false, true, false, false, false, false] rfl rfl (by kernel_rfl) (fun _ _ _ h => h) (Or.inl ⟨by rfl, ?_⟩) ?_ ?_
         rotate_left
         ·intro w'
          go_simp
          with_reducible rfl
         rotate_left
         ·simp only [Act.put, List.setIfInBounds_toArray, List.set_cons_zero, List.set_cons_succ, i64_w, i32_w]
          rfl
         refine take_ (i := 0) (N := some 104) (v := ?_) (a' := ?_) #[true, false, true, false, false, false, false] rfl rfl (by kernel_rfl) (fun _ _ _ h => h) (Or.inl ⟨by rfl, ?_⟩) hHeld ?_ ?_
         rotate_left
         ·rintro w' ⟨s0, s1, s2⟩
          go_simp
          with_reducible rfl
         rotate_left
         ·simp only [Act.put, List.setIfInBounds_toArray, List.set_cons_zero, List.set_cons_succ, i64_w, i32_w]
          rfl
         refine take_ (i := 1) (N := some 105) (v := ?_) (a' := ?_) #[true, true, true, false, false, false, false] rfl rfl (by kernel_rfl) (fun _ _ _ h => h) (Or.inl ⟨by rfl, ?_⟩) hHeld ?_ ?_
         rotate_left
         ·rintro w' ⟨s0, s1, s2⟩
          go_simp
          with_reducible rfl
         rotate_left
         ·simp only [Act.put, List.setIfInBounds_toArray, List.set_cons_zero, List.set_cons_succ, i64_w, i32_w]
          rfl
         refine one_ (i := 3) (N := some 107) #[true, true, true, true, false, false, false] rfl rfl (by kernel_rfl) (by decide) (fun K hK => ?_)
         refine goes_ Try.func42 (by kernel_rfl) rfl #[.agg #[.slice Ao193 y99.length co193, .slice Ao195 y105.length co195, .slice Ao181 t73.length co181], .int .i64 a2] (by rfl) rfl rfl (by (try simp only [List.map_toArray, List.map_cons, List.map_nil]); first | rfl ) ?_
         with_reducible refine (memo_Find.calls kj55 _ _ y99 _ _ y105 _ _ t73 a2 t108 _ ?side1 ?side2 ?side3 ?side4 ?side5 ?side6 A169.out).mono ?_
         (case side1 => exact cM (Kd.R_reads' HO101.out).2.2)
         (case side2 => exact (Kd.R_reads' HO101.out).2.1)
         (case side3 => exact cM (Kd.R_reads' HO107.out).2.2)
         (case side4 => exact (Kd.R_reads' HO107.out).2.1)
         (case side5 => exact cM (Kd.R_reads' HO75.out).2.2)
         (case side6 => exact (Kd.R_reads' HO75.out).2.1)
         rintro e w199 ⟨rfl, hb⟩
         refine ⟨_, rfl, ?_⟩
         replace HO75 := Aside0.mk (Kd.R_below (rM HO75.out) hb)
         replace HO98 := Aside0.mk (Kd.R_below (rM HO98.out) hb)
         replace HO101 := Aside0.mk (Kd.R_below (rM HO101.out) hb)
         replace HO104 := Aside0.mk (Kd.R_below (rM HO104.out) hb)
         replace HO107 := Aside0.mk (Kd.R_below (rM HO107.out) hb)
         replace BK11 := Aside0.mk (blk_below (kM BK11.out) hb)
         replace BK12 := Aside0.mk (blk_below (kM BK12.out) hb)
         replace BK13 := Aside0.mk (blk_below (kM BK13.out) hb)
         replace BK76 := Aside0.mk (blk_below (kM BK76.out) hb)
         replace HB := Aside0.mk (below_step (by exact wM HB.out) hb)
         (try clear hb)
         (try clear hb2)
         (try clear hk)
         (try clear hi)
         refine hK.out _ _ ⟨(blk_cell BK76.out 0).trans rfl, (blk_cell BK76.out 1).trans rfl, (blk_cell BK76.out 2).trans rfl⟩ (fun hHeld => ?_)
         clear hK K
         refine norm_ (a' := ?_) ?_ ?_
         rotate_left
         ·show Act.put _ (some 107) _ = _
          simp only [Act.put, List.setIfInBounds_toArray, List.set_cons_zero, List.set_cons_succ, i64_w, i32_w]
          rfl
         refine one_ (i := 4) (N := none) #[true, true, true, true, true, false, false] rfl rfl (by kernel_rfl) (by decide) (fun K hK => ?_)
         have hs200 : w199.cell? ⟨gb13, 0, none⟩ = some (.slice none 0 0) := (blk_cell BK13.out 0).trans rfl
         have hfs200 := blk_frozen BK13.out 0
         have hns200_0 := NB11_13.out
         have hns200_1 := NB12_13.out
         have hns200_3 := NB76_13.out
         have hms200_0 := NB13_11.out
         have hms200_1 := NB13_12.out
         have hms200_3 := NB13_76.out
         have hs201 : w199.cell? ⟨gb13, 1, none⟩ = some (.slice none 0 0) := (blk_cell BK13.out 1).trans rfl
         have hfs201 := blk_frozen BK13.out 1
         have hns201_0 := NB11_13.out
         have hns201_1 := NB12_13.out
         have hns201_3 := NB76_13.out
         have hms201_0 := NB13_11.out
         have hms201_1 := NB13_12.out
         have hms201_3 := NB13_76.out
         have hs202 : w199.cell? ⟨gb13, 2, none⟩ = some (.slice none 0 0) := (blk_cell BK13.out 2).trans rfl
         have hfs202 := blk_frozen BK13.out 2
         have hns202_0 := NB11_13.out
         have hns202_1 := NB12_13.out
         have hns202_3 := NB76_13.out
         have hms202_0 := NB13_11.out
         have hms202_1 := NB13_12.out
         have hms202_3 := NB13_76.out
         refine skip_ (w1 := ?_) (by rfl) rfl ?_ ?_
         rotate_left
         ·go_simp
          rfl
         refine hK.out _ _ ⟨((cell_far (p := ⟨gb13, _, none⟩) NB76_13.out _).trans (((cell_far (p := ⟨gb13, _, none⟩) NB76_13.out _).trans (((cell_far (p := ⟨gb13, _, none⟩) NB76_13.out _).trans (hHeld.1)))))), ((cell_far (p := ⟨gb13, _, none⟩) NB76_13.out _).trans (((cell_far (p := ⟨gb13, _, none⟩) NB76_13.out _).trans (((cell_far (p := ⟨gb13, _, none⟩) NB76_13.out _).trans (hHeld.2.1)))))), ((cell_far (p := ⟨gb13, _, none⟩) NB76_13.out _).trans (((cell_far (p := ⟨gb13, _, none⟩) NB76_13.out _).trans (((cell_far (p := ⟨gb13, _, none⟩) NB76_13.out _).trans (hHeld.2.2))))))⟩ (fun hHeld => ?_)
         clear hK K
         refine pure_ (i := 5) (N := some 7) (v := ?_) (a' := ?_) #[true, true, true, true, true, true, false] rfl rfl (by kernel_rfl) (fun _ _ _ h => h) (Or.inl ⟨by rfl, ?_⟩) ?_ ?_
         rotate_left
         ·intro w'
          go_simp
          with_reducible rfl
         rotate_left
         ·simp only [Act.put, List.setIfInBounds_toArray, List.set_cons_zero, List.set_cons_succ, i64_w, i32_w]
          rfl
         refine pure_ (i := 6) (N := some 8) (v := ?_) (a' := ?_) #[true, true, true, true, true, true, true] rfl rfl (by kernel_rfl) (fun _ _ _ h => h) (Or.inl ⟨by rfl, ?_⟩) ?_ ?_
         rotate_left
         ·intro w'
          go_simp
          with_reducible rfl
         rotate_left
         ·simp only [Act.put, List.setIfInBounds_toArray, List.set_cons_zero, List.set_cons_succ, i64_w, i32_w]
          rfl
         refine done_ (by kernel_rfl) ?_
         try go_wp2
         refine bodyPost_ret (results_ctt rfl _ _ gb13 38 #[.slice Ao193 y99.length co193, .slice Ao195 y105.length co195, .slice Ao181 t73.length co181] (0, 0) _ rfl (by (with_reducible repeat (first | refine blk_drewN ?_ _ | refine blk_drew ?_ | refine blk_alloc ?_ _)); exact kP1 BK13.out) Try.underlying38 rfl (by kernel_rfl)) rfl ?_
         exact ⟨_, _, _, by rfl, by (with_reducible repeat (first | apply Kd.R_alloc | apply Kd.R_drewN | apply Kd.R_drew)); exact Kd.R_mono (Kd.R_far (p := ⟨gb13, 2, none⟩) (Kd.R_far (p := ⟨gb13, 1, none⟩) (Kd.R_far (p := ⟨gb13, 0, none⟩) (Kd.R_types HO101.out BK13.out (by decide)) (fun _ hk => hk.2) (.slice Ao193 y99.length co193)) (fun _ hk => hk.2) (.slice Ao195 y105.length co195)) (fun _ hk => hk.2) (.slice Ao181 t73.length co181)) (fun _ hk => trivial), by (with_reducible repeat (first | apply Kd.R_alloc | apply Kd.R_drewN | apply Kd.R_drew)); exact Kd.R_mono (Kd.R_far (p := ⟨gb13, 2, none⟩) (Kd.R_far (p := ⟨gb13, 1, none⟩) (Kd.R_far (p := ⟨gb13, 0, none⟩) (Kd.R_types HO107.out BK13.out (by decide)) (fun _ hk => hk.2) (.slice Ao193 y99.length co193)) (fun _ hk => hk.2) (.slice Ao195 y105.length co195)) (fun _ hk => hk.2) (.slice Ao181 t73.length co181)) (fun _ hk => hk.1.1), by (with_reducible repeat (first | apply Kd.R_alloc | apply Kd.R_drewN | apply Kd.R_drew)); exact Kd.R_mono (Kd.R_far (p := ⟨gb13, 2, none⟩) (Kd.R_far (p := ⟨gb13, 1, none⟩) (Kd.R_far (p := ⟨gb13, 0, none⟩) (Kd.R_types HO75.out BK13.out (by decide)) (fun _ hk => hk.2) (.slice Ao193 y99.length co193)) (fun _ hk => hk.2) (.slice Ao195 y105.length co195)) (fun _ hk => hk.2) (.slice Ao181 t73.length co181)) (fun _ hk => hk.1.2), by repeat ((with_reducible first | exact HB.out | refine below_set ?_ GE13.out ))⟩
        ·rw [if_neg c168] at H
         exact absurd H (by simp)
       ·rw [if_neg c167] at H
        exact absurd H (by simp)
end Go.Proofs.Ytkidnomkfdnciaa.All
