/- Functions of the program as plain Lean functions, and proofs that the calls do what these say; written for this claim by a program of the session (wip/tools/mkprint.py), checked by Lean. -/
import Derived.Test.YtkidnomkfdnciaaAllx0
import Derived.Test.YtkidnomkfdnciaaBk
import Derived.Test.YtkidnomkfdnciaaMv
import Derived.Test.YtkidnomkfdnciaaAllx3
import Derived.Test.YtkidnomkfdnciaaAllx9
import Derived.Test.YtkidnomkfdnciaaAllx18
import Derived.Test.YtkidnomkfdnciaaAllx24
import Derived.Test.YtkidnomkfdnciaaAllx27
import Derived.Test.YtkidnomkfdnciaaAllx28
import Derived.Test.YtkidnomkfdnciaaAllx50
import Derived.Test.YtkidnomkfdnciaaAllx51
import Derived.Test.YtkidnomkfdnciaaAllx56
namespace Go.Proofs.Ytkidnomkfdnciaa.All
open Go.RowKit Go.Proofs.YtkidnomkfdnciaaW.PrintWords Go.Proofs.YtkidnomkfdnciaaW.PrintLast Go.Proofs.YtkidnomkfdnciaaW.PrintMore
attribute [local go_sem] max2_int min2_int max_two min_two max_three min_three max_four min_four   -- for this text's walks alone
set_option linter.unusedVariables false
set_option linter.unusedSimpArgs false

attribute [local go_sem high] eqA73
/-! ### roadbooklaw20_CallsOrder: function 22 -/
mutual
def roadbooklaw20_CallsOrder.j0 : Nat → List (List (S76)) → List Int → Bool → Bool → List (S48) → List Int → List Int → Option (Bool)
 | 0, _, _, _, _, _, _, _ => none
 | k + 1, x1, x2, x7, x40, x12000, x12001, x12002 => if x40 = true then (some x7) else ((calls_Run.f k x12000 x12001 x12002 x1 x2).bind fun bt16 => ((calls_Order.f k bt16.2.2.2.2).bind fun t32 => (if 0 ≤ (x1.length : Int) then (if ((x1.length : Int) : Int).toNat ≤ 35184372088832 then (roadbooklaw20_CallsOrder.l0 k x1 bt16.2.2.2.1 t32 ([] : List (S76)) (List.replicate ((x1.length : Int) : Int).toNat 0) 0 x12000 x12001 x12002 bt16.1 bt16.2.1 bt16.2.2.1) else (none)) else (none))))
def roadbooklaw20_CallsOrder.l0 : Nat → List (List (S76)) → List (List (S73)) → List (S68) → List (S76) → List Int → Int → List (S48) → List Int → List Int → List (S48) → List Int → List Int → Option (Bool)
 | 0, _, _, _, _, _, _, _, _, _, _, _, _ => none
 | k + 1, x1, x10, x12, x13, x14, x15, x12000, x12001, x12002, x32000, x32001, x32002 => if x15 < (x12.length : Int) then (if 0 ≤ x15 then (if ((rd_T68 x12 x15).f0) < 0 then (some false) else (if ((rd_T68 x12 x15).f0) ≥ (x1.length : Int) then (some false) else (if 0 ≤ ((rd_T68 x12 x15).f0) then (if ((rd_T68 x12 x15).f0) < (x14.length : Int) then (if ((rd_T68 x12 x15).f1) = (rd x14 ((rd_T68 x12 x15).f0)) then (if ((rd_T68 x12 x15).f0) < (x1.length : Int) then (if ((rd_T68 x12 x15).f1) ≥ ((rd_L5 x1 ((rd_T68 x12 x15).f0)).length : Int) then (some false) else (if 0 ≤ ((rd_T68 x12 x15).f1) then (if ((rd_T68 x12 x15).f1) < ((rd_L5 x1 ((rd_T68 x12 x15).f0)).length : Int) then (if x13.length < 2513169434916 then (roadbooklaw20_CallsOrder.l0 k x1 x10 x12 (x13 ++ [(⟨(rd_T76 (rd_L5 x1 ((rd_T68 x12 x15).f0)) ((rd_T68 x12 x15).f1)).f0, (⟨(rd_T76 (rd_L5 x1 ((rd_T68 x12 x15).f0)) ((rd_T68 x12 x15).f1)).f1.f0, (rd_T76 (rd_L5 x1 ((rd_T68 x12 x15).f0)) ((rd_T68 x12 x15).f1)).f1.f1, (rd_T76 (rd_L5 x1 ((rd_T68 x12 x15).f0)) ((rd_T68 x12 x15).f1)).f1.f2, (rd_T76 (rd_L5 x1 ((rd_T68 x12 x15).f0)) ((rd_T68 x12 x15).f1)).f1.f3⟩ : S48), (rd_T76 (rd_L5 x1 ((rd_T68 x12 x15).f0)) ((rd_T68 x12 x15).f1)).f2, (rd_T76 (rd_L5 x1 ((rd_T68 x12 x15).f0)) ((rd_T68 x12 x15).f1)).f3⟩ : S76)]) (x14.set (((rd_T68 x12 x15).f0) : Int).toNat (wrap64 (((rd_T68 x12 x15).f1) + 1))) (wrap64 (x15 + 1)) x12000 x12001 x12002 x32000 x32001 x32002) else (none)) else (none)) else (none))) else (none)) else (some false)) else (none)) else (none)))) else (none)) else ((calls_All.f k x12000 x12001 x12002 x13).bind fun bt48 => ((memo_Same.f k x32000 x32001 x32002 bt48.1 bt48.2.1 bt48.2.2.1).bind fun t61 => (if t61 = true then (if (x10.length : Int) = (x1.length : Int) then (roadbooklaw20_CallsOrder.j2 k x1 x10 x12 x14 bt48.2.2.2 ((bt48.2.2.2.length : Int) != (x12.length : Int))) else (roadbooklaw20_CallsOrder.j2 k x1 x10 x12 x14 bt48.2.2.2 true)) else (roadbooklaw20_CallsOrder.j2 k x1 x10 x12 x14 bt48.2.2.2 true))))
def roadbooklaw20_CallsOrder.j2 : Nat → List (List (S76)) → List (List (S73)) → List (S68) → List Int → List (S73) → Bool → Option (Bool)
 | 0, _, _, _, _, _, _ => none
 | k + 1, x1, x10, x12, x14, x18, x138 => if x138 = true then (some false) else (roadbooklaw20_CallsOrder.l1 k x1 x10 x12 x14 x18 0)
def roadbooklaw20_CallsOrder.l1 : Nat → List (List (S76)) → List (List (S73)) → List (S68) → List Int → List (S73) → Int → Option (Bool)
 | 0, _, _, _, _, _, _ => none
 | k + 1, x1, x10, x12, x14, x18, x19 => if x19 < (x1.length : Int) then (if 0 ≤ x19 then (if x19 < (x14.length : Int) then (if (rd x14 x19) = ((rd_L5 x1 x19).length : Int) then (if x19 < (x10.length : Int) then (if ((rd_L6 x10 x19).length : Int) = ((rd_L5 x1 x19).length : Int) then (roadbooklaw20_CallsOrder.l1 k x1 x10 x12 x14 x18 (wrap64 (x19 + 1))) else (some false)) else (none)) else (some false)) else (none)) else (none)) else (roadbooklaw20_CallsOrder.l2 k x10 x12 x18 0)
def roadbooklaw20_CallsOrder.l2 : Nat → List (List (S73)) → List (S68) → List (S73) → Int → Option (Bool)
 | 0, _, _, _, _ => none
 | k + 1, x10, x12, x18, x20 => if x20 < (x12.length : Int) then (if 0 ≤ x20 then (if 0 ≤ ((rd_T68 x12 x20).f0) then (if ((rd_T68 x12 x20).f0) < (x10.length : Int) then (if 0 ≤ ((rd_T68 x12 x20).f1) then (if ((rd_T68 x12 x20).f1) < ((rd_L6 x10 ((rd_T68 x12 x20).f0)).length : Int) then (if x20 < (x18.length : Int) then (if (!(((rd_T73 (rd_L6 x10 ((rd_T68 x12 x20).f0)) ((rd_T68 x12 x20).f1)).f0) == ((rd_T73 x18 x20).f0)) || (!(((rd_T73 (rd_L6 x10 ((rd_T68 x12 x20).f0)) ((rd_T68 x12 x20).f1)).f1) == ((rd_T73 x18 x20).f1)))) = true then (some false) else (roadbooklaw20_CallsOrder.l2 k x10 x12 x18 (wrap64 (x20 + 1)))) else (none)) else (none)) else (none)) else (none)) else (none)) else (none)) else (some true)
end
def roadbooklaw20_CallsOrder.f (k : Nat) (l0_0 : List (S48)) (l0_1 : List Int) (l0_2 : List Int) (l1 : List (List (S76))) (l2 : List Int) : Option (Bool) := (roadbooklaw20_awake.f k).bind fun t12 => ((roadbooklaw20_few.f k l1 l2).bind fun t13 => (if t12 = true then (if t13 = true then ((roadbooklaw16_Far.f l0_0 l0_1 l0_2 20).bind fun t14 => (if t14 = 0 then ((memo_May.f l0_0 l0_1 l0_2).bind fun t15 => (roadbooklaw20_CallsOrder.j0 k l1 l2 t12 (!t15) l0_0 l0_1 l0_2)) else (roadbooklaw20_CallsOrder.j0 k l1 l2 t12 true l0_0 l0_1 l0_2))) else (roadbooklaw20_CallsOrder.j0 k l1 l2 t12 true l0_0 l0_1 l0_2)) else (roadbooklaw20_CallsOrder.j0 k l1 l2 t12 true l0_0 l0_1 l0_2)))
def roadbooklaw20_CallsOrder.T13 : Bool × List (List Nat × List Nat) := (true, [([], []), ([0], [0]), ([1], [1]), ([2], [2]), ([3], [3]), ([4, 3], [3, 4]), ([3], [3]), ([6, 3], [3, 6]), ([5, 7, 3], [3, 5, 7]), ([3, 8], [3, 8]), ([9, 3], [9]), ([10], [10]), ([11, 10], [10, 11]), ([10], [10]), ([10], [10]), ([14, 10], [10, 14]), ([13, 15, 10], [10, 13, 15]), ([16, 10], [10, 16]), ([12, 17, 10], [10, 12, 17]), ([10, 18], [10, 18]), ([19, 10], [19]), ([20], [20]), ([21, 20], [20, 21]), ([20], [20]), ([20], [20]), ([24, 20], [20, 24]), ([23, 25, 20], [20, 23, 25]), ([26, 20], [20, 26]), ([27, 20], [20, 27]), ([22, 28, 20], [20, 22, 28]), ([20, 29], [20, 29])])
def roadbooklaw20_CallsOrder.B13 : List Nat := [0, 1, 3, 7, 15, 31, 15, 79, 255, 511, 1023, 2047, 4095, 2047, 2047, 18431, 59391, 124927, 262143, 524287, 1048575, 2097151, 4194303, 2097151, 2097151, 18874367, 60817407, 127926271, 262143999, 536870911, 1073741823]
theorem roadbooklaw20_CallsOrder.tab13 : rtab .any (opsOf Try.f22 13) = roadbooklaw20_CallsOrder.T13 := by kernel_rfl
theorem roadbooklaw20_CallsOrder.bits13 : waitsOk roadbooklaw20_CallsOrder.T13.2 roadbooklaw20_CallsOrder.B13 = true := by kernel_rfl
def roadbooklaw20_CallsOrder.T16 : Bool × List (List Nat × List Nat) := (true, [([], []), ([], []), ([], []), ([2], [2]), ([1, 3], [1, 3]), ([4], [4]), ([], []), ([6], [6]), ([5, 7], [5, 7]), ([8], [8]), ([9], [9]), ([0, 10], [0, 10]), ([11, 11, 0, 1, 2, 3, 4, 5, 6, 7, 8, 9, 10, 11], [0, 11])])
def roadbooklaw20_CallsOrder.B16 : List Nat := [0, 0, 0, 4, 14, 30, 0, 64, 254, 510, 1022, 2047, 4095]
theorem roadbooklaw20_CallsOrder.tab16 : rtab .any (opsOf Try.f22 16) = roadbooklaw20_CallsOrder.T16 := by kernel_rfl
theorem roadbooklaw20_CallsOrder.bits16 : waitsOk roadbooklaw20_CallsOrder.T16.2 roadbooklaw20_CallsOrder.B16 = true := by kernel_rfl
def roadbooklaw20_CallsOrder.T23 : Bool × List (List Nat × List Nat) := (true, [([], []), ([], []), ([0, 1], [0, 1]), ([2], [2]), ([], []), ([], []), ([4, 5], [4, 5]), ([6], [6]), ([7], [7]), ([3, 8], [3, 8]), ([9], [9]), ([10], [10]), ([10], [10]), ([11, 12, 10], [10, 11, 12]), ([13, 10], [10, 13]), ([14, 10], [10, 14]), ([10], [10]), ([10], [10]), ([16, 17, 10], [10, 16, 17]), ([18, 10], [10, 18]), ([19, 10], [10, 19]), ([15, 20, 10], [10, 15, 20]), ([10, 21], [10, 21])])
def roadbooklaw20_CallsOrder.B23 : List Nat := [0, 0, 3, 7, 0, 0, 48, 112, 240, 511, 1023, 2047, 2047, 8191, 16383, 32767, 2047, 2047, 198655, 460799, 985087, 2097151, 4194303]
theorem roadbooklaw20_CallsOrder.tab23 : rtab .any (opsOf Try.f22 23) = roadbooklaw20_CallsOrder.T23 := by kernel_rfl
theorem roadbooklaw20_CallsOrder.bits23 : waitsOk roadbooklaw20_CallsOrder.T23.2 roadbooklaw20_CallsOrder.B23 = true := by kernel_rfl
def roadbooklaw20_CallsOrder.T28 : Bool × List (List Nat × List Nat) := (true, [([], []), ([], []), ([], []), ([1, 2], [1, 2]), ([3], [3]), ([4], [4]), ([0, 5], [0, 5]), ([6], [6]), ([], []), ([], []), ([8, 9], [8, 9]), ([10], [10]), ([11], [11]), ([7, 12], [7, 12]), ([13], [13]), ([], []), ([], []), ([15, 16], [15, 16]), ([17], [17]), ([14, 18], [14, 18])])
def roadbooklaw20_CallsOrder.B28 : List Nat := [0, 0, 0, 6, 14, 30, 63, 127, 0, 0, 768, 1792, 3840, 8191, 16383, 0, 0, 98304, 229376, 524287]
theorem roadbooklaw20_CallsOrder.tab28 : rtab .any (opsOf Try.f22 28) = roadbooklaw20_CallsOrder.T28 := by kernel_rfl
theorem roadbooklaw20_CallsOrder.bits28 : waitsOk roadbooklaw20_CallsOrder.T28.2 roadbooklaw20_CallsOrder.B28 = true := by kernel_rfl
set_option maxHeartbeats 8000000 in
set_option maxRecDepth 100000 in
theorem roadbooklaw20_CallsOrder.calls (k : Nat) (A0_0 : Option Addr) (c0_0 : Nat) (l0_0 : List (S48)) (A0_1 : Option Addr) (c0_1 : Nat) (l0_1 : List Int) (A0_2 : Option Addr) (c0_2 : Nat) (l0_2 : List Int) (A1 : Option Addr) (c1 : Nat) (l1 : List (List (S76))) (A2 : Option Addr) (c2 : Nat) (l2 : List Int) (r : Bool) (w : World) (hr0_0 : Kd.C k48 w A0_0 l0_0.length l0_0) (hc0_0 : l0_0.length ≤ c0_0) (hr0_1 : Kd.C (Kd.int .i64) w A0_1 l0_1.length l0_1) (hc0_1 : l0_1.length ≤ c0_1) (hr0_2 : Kd.C (Kd.int .i64) w A0_2 l0_2.length l0_2) (hc0_2 : l0_2.length ≤ c0_2) (hr1 : Kd.C (Kd.slice 76 k76) w A1 l1.length l1) (hc1 : l1.length ≤ c1) (hr2 : Kd.C (Kd.int .i64) w A2 l2.length l2) (hc2 : l2.length ≤ c2) (hrt : r = true) (h : roadbooklaw20_CallsOrder.f k l0_0 l0_1 l0_2 l1 l2 = some r) :
  Calls Try.prog 22 #[.agg #[.slice A0_0 l0_0.length c0_0, .slice A0_1 l0_1.length c0_1, .slice A0_2 l0_2.length c0_2], .slice A1 l1.length c1, .slice A2 l2.length c2] w fun e w' => e = .returned (.bool r) ∧ Below w.heap.size w w' := by
 have HRT := Aside0.mk hrt
 clear hrt
 have hu38 := Try.underlying38
 have hu68 := Try.underlying68
 have hu76 := Try.underlying76
 have hu73 := Try.underlying73
 have HR0_0 := Aside0.mk hr0_0
 have HC0_0 := Aside0.mk hc0_0
 clear hr0_0 hc0_0
 have HR0_1 := Aside0.mk hr0_1
 have HC0_1 := Aside0.mk hc0_1
 clear hr0_1 hc0_1
 have HR0_2 := Aside0.mk hr0_2
 have HC0_2 := Aside0.mk hc0_2
 clear hr0_2 hc0_2
 have HR1 := Aside0.mk hr1
 have HC1 := Aside0.mk hc1
 clear hr1 hc1
 have HR2 := Aside0.mk hr2
 have HC2 := Aside0.mk hc2
 clear hr2 hc2
 have HB := Aside0.mk (Below.refl w.heap.size w)
 have H : ((roadbooklaw20_awake.f k).bind fun t12 => ((roadbooklaw20_few.f k l1 l2).bind fun t13 => (if t12 = true then (if t13 = true then ((roadbooklaw16_Far.f l0_0 l0_1 l0_2 20).bind fun t14 => (if t14 = 0 then ((memo_May.f l0_0 l0_1 l0_2).bind fun t15 => (roadbooklaw20_CallsOrder.j0 k l1 l2 t12 (!t15) l0_0 l0_1 l0_2)) else (roadbooklaw20_CallsOrder.j0 k l1 l2 t12 true l0_0 l0_1 l0_2))) else (roadbooklaw20_CallsOrder.j0 k l1 l2 t12 true l0_0 l0_1 l0_2)) else (roadbooklaw20_CallsOrder.j0 k l1 l2 t12 true l0_0 l0_1 l0_2)))) = some r := h
 clear h
 replace H := Option.bind_eq_some_iff.mp H
 obtain ⟨t12, A40, H⟩ := H
 have A4 := Aside0.mk A40
 clear A40
 replace H := Option.bind_eq_some_iff.mp H
 obtain ⟨t13, A50, H⟩ := H
 have A5 := Aside0.mk A50
 clear A50
 have HC6 := Aside0.mk H
 clear H
 go_enter Try.func22, Try.ntmps22
 go_upto_region 3 with (first | ((with_reducible refine gate_dst (N := 3) rfl ?_); (try (refine gate_guard (by rfl) ?_; dsimp only)); refine box_event ?hg (N := 3) ?hd (cs := #[.slice A0_0 l0_0.length c0_0, .slice A0_1 l0_1.length c0_1, .slice A0_2 l0_2.length c0_2]) (t := 38) ?hr ?_; (case hd => rfl); (case hg => rfl); (case hr => first | (go_simp; done) ); intro gb11 hg w7 hbox hb; have BK11 := Aside0.mk (hbox); have GW11 := Aside0.mk ((by rw [hg]; exact (below_size (by exact wM HB.out)) : w.heap.size ≤ gb11)); have GE11 := Aside0.mk ((by rw [hg]; exact (below_size (by exact wM HB.out)) : w.heap.size ≤ gb11)); replace HB := Aside0.mk (below_step (by exact wM HB.out) hb); clear hb hbox hg) | ((with_reducible refine gate_callee (f := 56) rfl ?_); refine goesL_ (some 21) rfl rfl Try.func56 (by kernel_rfl) rfl #[] rfl (by (try simp only [List.map_toArray, List.map_cons, List.map_nil]); first | done ) ?_; (with_reducible refine (roadbooklaw20_awake.calls k  t12 _ A4.out).mono ?_); rintro e w8 ⟨rfl, hb⟩; refine ⟨_, rfl, ?_⟩; replace BK11 := Aside0.mk (blk_below (kM BK11.out) hb); replace HB := Aside0.mk (below_step (by exact wM HB.out) hb); (try clear hb); ) | ((with_reducible refine gate_callee (f := 57) rfl ?_); refine goesL_ (some 24) rfl rfl Try.func57 (by kernel_rfl) rfl #[.slice A1 l1.length c1, .slice A2 l2.length c2] rfl (by (try simp only [List.map_toArray, List.map_cons, List.map_nil]); first | rfl ) ?_; (with_reducible refine (roadbooklaw20_few.calls k _ _ l1 _ _ l2 t13 _ ?side1 ?side2 ?side3 ?side4 A5.out).mono ?_); (case side1 => exact cM (Kd.C_below HR1.out HB.out)); (case side2 => exact HC1.out); (case side3 => exact cM (Kd.C_below HR2.out HB.out)); (case side4 => exact HC2.out); rintro e w' ⟨rfl, ⟨nd, rfl⟩⟩; refine ⟨_, rfl, ?_⟩))
 (try simp only [Act.put, List.setIfInBounds_toArray, List.set_cons_zero, List.set_cons_succ])
 go_cut [40] (fun v40 wc => ∃ (kq : Nat) (x40_5 : Bool), v40 = .bool x40_5 ∧ Aside0 (roadbooklaw20_CallsOrder.j0 kq l1 l2 t12 x40_5 l0_0 l0_1 l0_2 = some r) ∧ Aside0 (kq ≤ k) ∧ Aside0 (wc.heap[gb11]? = some (.cells #[(.slice A0_0 l0_0.length c0_0), (.slice A0_1 l0_1.length c0_1), (.slice A0_2 l0_2.length c0_2)] 38 (0, 0))) ∧ Aside0 (Below w.heap.size w wc))
 case first =>
  have H := HC6.out
  clear HC6
  by_cases c9 : t12 = true
  ·subst c9
   rw [if_pos rfl] at H
   by_cases c10 : t13 = true
   ·subst c10
    rw [if_pos rfl] at H
    replace H := Option.bind_eq_some_iff.mp H
    obtain ⟨t14, A110, H⟩ := H
    have A11 := Aside0.mk A110
    clear A110
    by_cases c12 : t14 = 0
    ·rw [if_pos c12] at H
     have c12b0 : (t14 == 0) = true := beq_iff_eq.mpr c12
     have c12b1 : (t14 != 0) = false := bne_eq_false_iff_eq.mpr c12
     clear c12
     (skip)
     replace H := Option.bind_eq_some_iff.mp H
     obtain ⟨t15, A130, H⟩ := H
     have A13 := Aside0.mk A130
     clear A130
     have H' := Aside0.mk H
     clear H
     obtain ⟨hcz14_0, hcz14_1, hcz14_2, hfz14_0, hfz14_1, hfz14_2⟩ := bk3 BK11.out
     go_wp2_with (first | (go_at_call 58; (with_reducible refine (roadbooklaw16_Far.calls _ _ l0_0 _ _ l0_1 _ _ l0_2 20 t14 _ ?side1 ?side2 ?side3 ?side4 ?side5 ?side6 A11.out).mono ?_); (case side1 => exact cM (Kd.C_below HR0_0.out HB.out)); (case side2 => exact HC0_0.out); (case side3 => exact cM (Kd.C_below HR0_1.out HB.out)); (case side4 => exact HC0_1.out); (case side5 => exact cM (Kd.C_below HR0_2.out HB.out)); (case side6 => exact HC0_2.out); rintro e w15 ⟨rfl, hb⟩; replace BK11 := Aside0.mk (blk_below (kM BK11.out) hb); replace HB := Aside0.mk (below_step (by exact wM HB.out) hb); (try clear hb); obtain ⟨hcz16_0, hcz16_1, hcz16_2, hfz16_0, hfz16_1, hfz16_2⟩ := bk3 BK11.out) | (go_at_call 41; (with_reducible refine (memo_May.calls _ _ l0_0 _ _ l0_1 _ _ l0_2 t15 _ ?side1 ?side2 ?side3 ?side4 ?side5 ?side6 A13.out).mono ?_); (case side1 => exact cM (Kd.C_below HR0_0.out HB.out)); (case side2 => exact HC0_0.out); (case side3 => exact cM (Kd.C_below HR0_1.out HB.out)); (case side4 => exact HC0_1.out); (case side5 => exact cM (Kd.C_below HR0_2.out HB.out)); (case side6 => exact HC0_2.out); rintro e w17 ⟨rfl, hb⟩; replace BK11 := Aside0.mk (blk_below (kM BK11.out) hb); replace HB := Aside0.mk (below_step (by exact wM HB.out) hb); (try clear hb); ))
     go_meet
     case rel => exact ⟨_, (!t15), (by rfl), H', ⟨by omega⟩, ⟨kM BK11.out⟩, ⟨by repeat ((with_reducible first | exact HB.out ))⟩⟩
    ·rw [if_neg c12] at H
     have c12b0 : (t14 == 0) = false := beq_eq_false_iff_ne.mpr c12
     have c12b1 : (t14 != 0) = true := bne_iff_ne.mpr c12
     (skip)
     have H' := Aside0.mk H
     clear H
     obtain ⟨hcz18_0, hcz18_1, hcz18_2, hfz18_0, hfz18_1, hfz18_2⟩ := bk3 BK11.out
     go_wp2_with ((go_at_call 58; (with_reducible refine (roadbooklaw16_Far.calls _ _ l0_0 _ _ l0_1 _ _ l0_2 20 t14 _ ?side1 ?side2 ?side3 ?side4 ?side5 ?side6 A11.out).mono ?_); (case side1 => exact cM (Kd.C_below HR0_0.out HB.out)); (case side2 => exact HC0_0.out); (case side3 => exact cM (Kd.C_below HR0_1.out HB.out)); (case side4 => exact HC0_1.out); (case side5 => exact cM (Kd.C_below HR0_2.out HB.out)); (case side6 => exact HC0_2.out); rintro e w19 ⟨rfl, hb⟩; replace BK11 := Aside0.mk (blk_below (kM BK11.out) hb); replace HB := Aside0.mk (below_step (by exact wM HB.out) hb); (try clear hb); ))
     go_meet
     case rel => exact ⟨_, (true), (by rfl), H', ⟨by omega⟩, ⟨kM BK11.out⟩, ⟨by repeat ((with_reducible first | exact HB.out ))⟩⟩
   ·replace c10 := Bool.eq_false_iff.mpr c10
    subst c10
    rw [if_neg (show ¬ (false = true) by decide)] at H
    have H' := Aside0.mk H
    clear H
    go_wp2
    go_meet
    case rel => exact ⟨_, (true), (by rfl), H', ⟨by omega⟩, ⟨kM BK11.out⟩, ⟨by repeat ((with_reducible first | exact HB.out | apply pw_below_drewN ))⟩⟩
  ·replace c9 := Bool.eq_false_iff.mpr c9
   subst c9
   rw [if_neg (show ¬ (false = true) by decide)] at H
   have H' := Aside0.mk H
   clear H
   go_wp2
   go_meet
   case rel => exact ⟨_, (true), (by rfl), H', ⟨by omega⟩, ⟨kM BK11.out⟩, ⟨by repeat ((with_reducible first | exact HB.out | apply pw_below_drewN ))⟩⟩
 case rest =>
  clear HC6
  obtain ⟨kq, x40_5, rfl, HA, HJ5, BK11, HB⟩ := hcut
  cases kq with
  | zero => exact absurd HA.out (by simp [roadbooklaw20_CallsOrder.j0])
  | succ kj5 =>
   have H := HA.out
   clear HA
   simp only [roadbooklaw20_CallsOrder.j0] at H
   by_cases c20 : x40_5 = true
   ·subst c20
    rw [if_pos rfl] at H
    obtain rfl := Option.some.inj H
    go_wp2
    go_ret
    exact ⟨by rfl, by repeat ((with_reducible first | exact HB.out ))⟩
   ·replace c20 := Bool.eq_false_iff.mpr c20
    subst c20
    rw [if_neg (show ¬ (false = true) by decide)] at H
    replace H := Option.bind_eq_some_iff.mp H
    obtain ⟨⟨t16, t19, t22, t25, t28⟩, A210, H⟩ := H
    replace H : ((calls_Order.f kj5 t28).bind fun t32 => (if 0 ≤ (l1.length : Int) then (if ((l1.length : Int) : Int).toNat ≤ 35184372088832 then (roadbooklaw20_CallsOrder.l0 kj5 l1 t25 t32 ([] : List (S76)) (List.replicate ((l1.length : Int) : Int).toNat 0) 0 l0_0 l0_1 l0_2 t16 t19 t22) else (none)) else (none))) = some r := H
    have A21 := Aside0.mk A210
    clear A210
    replace H := Option.bind_eq_some_iff.mp H
    obtain ⟨t32, A220, H⟩ := H
    have A22 := Aside0.mk A220
    clear A220
    by_cases c23 : 0 ≤ (l1.length : Int)
    ·rw [if_pos c23] at H
     have c23b0 := eq_true c23
     have c23b1 : decide (0 ≤ (l1.length : Int)) = true := decide_eq_true c23
     clear c23
     by_cases c24 : ((l1.length : Int) : Int).toNat ≤ 35184372088832
     ·rw [if_pos c24] at H
      have c24b0 := eq_true c24
      have c24b1 : decide (((l1.length : Int) : Int).toNat ≤ 35184372088832) = true := decide_eq_true c24
      clear c24
      obtain ⟨y35, hy35⟩ : ∃ y_ : List Int, y_ = (List.replicate ((l1.length : Int) : Int).toNat 0) := ⟨_, rfl⟩
      replace H : (roadbooklaw20_CallsOrder.l0 kj5 l1 t25 t32 ([] : List (S76)) y35 0 l0_0 l0_1 l0_2 t16 t19 t22) = some r := by (rw [hy35]; with_reducible exact H)
      have Ny35 := Aside0.mk hy35
      clear hy35
      have H' := Aside0.mk H
      clear H
      obtain ⟨hcz25_0, hcz25_1, hcz25_2, hfz25_0, hfz25_1, hfz25_2⟩ := bk3 BK11.out
      go_wp2_with (first | ((with_reducible refine gate_callee (f := 59) rfl ?_); refine goesL_ (some 46) rfl rfl Try.func59 (by kernel_rfl) rfl #[.agg #[.slice A0_0 l0_0.length c0_0, .slice A0_1 l0_1.length c0_1, .slice A0_2 l0_2.length c0_2], .slice A1 l1.length c1, .slice A2 l2.length c2] rfl (by (try simp only [List.map_toArray, List.map_cons, List.map_nil]); first | rfl ) ?_; (with_reducible refine (calls_Run.calls kj5 _ _ l0_0 _ _ l0_1 _ _ l0_2 _ _ l1 _ _ l2 t16 t19 t22 t25 t28 _ ?side1 ?side2 ?side3 ?side4 ?side5 ?side6 ?side7 ?side8 ?side9 ?side10 A21.out).mono ?_); (case side1 => exact cM (Kd.C_below HR0_0.out HB.out)); (case side2 => exact HC0_0.out); (case side3 => exact cM (Kd.C_below HR0_1.out HB.out)); (case side4 => exact HC0_1.out); (case side5 => exact cM (Kd.C_below HR0_2.out HB.out)); (case side6 => exact HC0_2.out); (case side7 => exact cM (Kd.C_below HR1.out HB.out)); (case side8 => exact HC1.out); (case side9 => exact cM (Kd.C_below HR2.out HB.out)); (case side10 => exact HC2.out); rintro e w26 ⟨v17, v20, v23, v26, v29, rfl, ho0, ho1, ho2, ho3, ho4, hb⟩; refine ⟨_, rfl, ?_⟩; have HO18 := Aside0.mk (Kd.R_lower ho0 (below_size (by exact wM HB.out))); have HO21 := Aside0.mk (Kd.R_lower ho1 (below_size (by exact wM HB.out))); have HO24 := Aside0.mk (Kd.R_lower ho2 (below_size (by exact wM HB.out))); have HO27 := Aside0.mk (Kd.S_lower ho3 (below_size (by exact wM HB.out))); have HO30 := Aside0.mk (Kd.R_lower ho4 (below_size (by exact wM HB.out))); replace BK11 := Aside0.mk (blk_below (kM BK11.out) hb); replace HB := Aside0.mk (below_step (by exact wM HB.out) hb); (try clear hb); (try clear ho0); (try clear ho1); (try clear ho2); (try clear ho3); (try clear ho4)) | ((with_reducible refine gate_dst (N := 9) rfl ?_); (try (refine gate_guard (by rfl) ?_; dsimp only)); refine box_event ?hg (N := 9) ?hd (cs := #[.slice none 0 0, .slice none 0 0, .slice none 0 0]) (t := 38) ?hr ?_; (case hd => rfl); (case hg => rfl); (case hr => first | (go_simp; done) ); intro gb31 hg w27 hbox hb; replace HO18 := Aside0.mk (Kd.R_below (rM HO18.out) hb); replace HO21 := Aside0.mk (Kd.R_below (rM HO21.out) hb); replace HO24 := Aside0.mk (Kd.R_below (rM HO24.out) hb); replace HO27 := Aside0.mk (Kd.S_below (sM HO27.out) hb); replace HO30 := Aside0.mk (Kd.R_below (rM HO30.out) hb); have BK31 := Aside0.mk (hbox); have GW31 := Aside0.mk ((by rw [hg]; exact (below_size (by exact wM HB.out)) : w.heap.size ≤ gb31)); have GE31 := Aside0.mk ((by rw [hg]; exact (below_size (by exact wM HB.out)) : w.heap.size ≤ gb31)); replace HB := Aside0.mk (below_step (by exact wM HB.out) hb); have NB11_31 := Aside0.mk ((by rw [hg]; exact Nat.ne_of_lt (blk_lt (kM BK11.out)) : gb11 ≠ gb31)); have NB31_11 := Aside0.mk ((by rw [hg]; exact Nat.ne_of_gt (blk_lt (kM BK11.out)) : gb31 ≠ gb11)); replace BK11 := Aside0.mk (blk_below (kM BK11.out) hb); clear hb hbox hg; obtain ⟨Ao28, co28, eo28⟩ := Kd.R_slice HO18.out; subst eo28; have hnb29 := NB31_11.out; have hnc29 := NB11_31.out; obtain ⟨hcz30_0, hcz30_1, hcz30_2, hfz30_0, hfz30_1, hfz30_2⟩ := bk3 BK31.out; obtain ⟨Ao31, co31, eo31⟩ := Kd.R_slice HO21.out; subst eo31; obtain ⟨Ao32, co32, eo32⟩ := Kd.R_slice HO24.out; subst eo32; obtain ⟨Ao33, co33, eo33⟩ := Kd.R_slice HO30.out; subst eo33) | ((with_reducible refine gate_callee (f := 70) rfl ?_); refine goesL_ (some 51) rfl rfl Try.func70 (by kernel_rfl) rfl #[.slice Ao33 t28.length co33] rfl (by (try simp only [List.map_toArray, List.map_cons, List.map_nil]); first | rfl ) ?_; (with_reducible refine (calls_Order.calls kj5 _ _ t28 t32 _ ?side1 ?side2 A22.out).mono ?_); (case side1 => exact rCF HO30.out BK31.out (by decide)); (case side2 => exact (Kd.R_reads' HO30.out).2.1); rintro e w34 ⟨v33, rfl, ho0, hb⟩; refine ⟨_, rfl, ?_⟩; replace HO18 := Aside0.mk (Kd.R_below (rF HO18.out BK31.out (by decide)) hb); replace HO21 := Aside0.mk (Kd.R_below (rF HO21.out BK31.out (by decide)) hb); replace HO24 := Aside0.mk (Kd.R_below (rF HO24.out BK31.out (by decide)) hb); replace HO27 := Aside0.mk (Kd.S_below (sF HO27.out BK31.out (by decide)) hb); have HO34 := Aside0.mk (Kd.R_lower (Kd.R_new' ho0 (Kd.R_lt (rF HO30.out BK31.out (by decide)))) (below_size (by exact wF HB.out GE31.out))); replace HO30 := Aside0.mk (Kd.R_elder' (rF HO30.out BK31.out (by decide)) (Kd.R_base ho0) hb); replace BK11 := Aside0.mk (blk_below (kF BK11.out NB11_31.out) hb); replace BK31 := Aside0.mk (blk_below (g := gb31) (o := .cells #[.slice Ao28 t16.length co28, .slice Ao31 t19.length co31, .slice Ao32 t22.length co32] 38 (0, 0)) (by (with_reducible repeat (first | refine blk_drewN ?_ _ | refine blk_drew ?_ | refine blk_alloc ?_ _)); exact kP1 BK31.out) hb); replace HB := Aside0.mk (below_step (by exact wF HB.out GE31.out) hb); (try clear hb); (try clear ho0)) | ((with_reducible refine gate_dst (N := 54) rfl ?_); (try (refine gate_guard (by rfl) ?_; dsimp only)); refine Kd.R_make (Kd.int .i64) _ 3 rfl (N := 54) rfl 22 _ _ rfl (l1.length : Int) rfl rfl Try.underlying22 (.int .i64 0) 8 info3 rfl (by decide) (by omega) 0 (ok := fun _ => True) (okp := fun _ => True) rfl (fun _ hk => hk) trivial (of_decide_eq_true (by (with_reducible assumption))) (Nat.le_trans (Nat.mul_le_mul_right _ (of_decide_eq_true (by (with_reducible assumption)) : (l1.length : Int).toNat ≤ 35184372088832)) (by omega)) (Below.refl _ _) (Nat.le_refl _) ?_; intro v36 w35 ho36 hb hg_ hnew_; clear hg_ hnew_; (rw [← Ny35.out] at ho36); replace HO18 := Aside0.mk (Kd.R_below (rM HO18.out) hb); replace HO27 := Aside0.mk (Kd.S_below (sM HO27.out) hb); replace HO30 := Aside0.mk (Kd.R_below (rM HO30.out) hb); replace HO34 := Aside0.mk (Kd.R_below (rM HO34.out) hb); have HO37 := Aside0.mk (Kd.R_lower (Kd.R_new' (Kd.R_new' ho36 (Kd.R_lt (rM HO21.out))) (Kd.R_lt (rM HO24.out))) (below_size (by exact wM HB.out))); replace HO21 := Aside0.mk (Kd.R_elder' (rM HO21.out) (Kd.R_base ho36) hb); replace HO24 := Aside0.mk (Kd.R_elder' (rM HO24.out) (Kd.R_base ho36) hb); replace BK11 := Aside0.mk (blk_below (kM BK11.out) hb); replace BK31 := Aside0.mk (blk_below (kM BK31.out) hb); replace HB := Aside0.mk (below_step (by exact wM HB.out) hb); clear hb ho36))
      go_loopg [13, 15] kj5 (fun kq v13 v15 w' => ∃ (x13_2 : List (S76)) (x14_2 : List Int) (x15_2 : Int), v15 = .int .i64 x15_2 ∧ Aside0 (roadbooklaw20_CallsOrder.l0 kq l1 t25 t32 x13_2 x14_2 x15_2 l0_0 l0_1 l0_2 t16 t19 t22 = some r) ∧ Aside0 (kq ≤ kj5) ∧ Aside0 (Kd.S (Kd.slice 73 k73) 71 w' w.heap.size (fun _ => True) v26 t25) ∧ Aside0 (Kd.R k68 68 w' w.heap.size (fun _ => True) v33 t32) ∧ Aside0 (Kd.R k76 76 w' w.heap.size (fun _ => True) v13 x13_2) ∧ Aside0 (Kd.R (Kd.int .i64) 3 w' w.heap.size (fun k_ => some k_ ≠ ((.slice Ao31 t19.length co31) : Value).ownBlock ∧ some k_ ≠ ((.slice Ao32 t22.length co32) : Value).ownBlock) v36 x14_2) ∧ Aside0 (Kd.R k48 48 w' w.heap.size (fun _ => True) (.slice Ao28 t16.length co28) t16) ∧ Aside0 (Kd.R (Kd.int .i64) 3 w' w.heap.size (fun k_ => some k_ ≠ (v36 : Value).ownBlock ∧ some k_ ≠ ((.slice Ao32 t22.length co32) : Value).ownBlock) (.slice Ao31 t19.length co31) t19) ∧ Aside0 (Kd.R (Kd.int .i64) 3 w' w.heap.size (fun k_ => some k_ ≠ (v36 : Value).ownBlock ∧ some k_ ≠ ((.slice Ao31 t19.length co31) : Value).ownBlock) (.slice Ao32 t22.length co32) t22) ∧ Aside0 (w'.heap[gb11]? = some (.cells #[(.slice A0_0 l0_0.length c0_0), (.slice A0_1 l0_1.length c0_1), (.slice A0_2 l0_2.length c0_2)] 38 (0, 0))) ∧ Aside0 (w'.heap[gb31]? = some (.cells #[(.slice Ao28 t16.length co28), (.slice Ao31 t19.length co31), (.slice Ao32 t22.length co32)] 38 (0, 0))) ∧ Aside0 (Below w.heap.size w w'))
      case atStart => exact ⟨(([] : List (S76))), (y35), (0), (by rfl), H', ⟨Nat.le_refl _⟩, ⟨by (with_reducible repeat (first | apply Kd.S_alloc | apply Kd.S_drewN | apply Kd.S_drew)); exact HO27.out⟩, ⟨by (with_reducible repeat (first | apply Kd.R_alloc | apply Kd.R_drewN | apply Kd.R_drew)); exact Kd.R_mono HO34.out (fun _ hk => trivial)⟩, ⟨by exact Kd.R_nil _ _ _ _ _⟩, ⟨by (with_reducible repeat (first | apply Kd.R_alloc | apply Kd.R_drewN | apply Kd.R_drew)); exact Kd.R_mono HO37.out (fun _ hk => ⟨hk.1.2, hk.2⟩)⟩, ⟨by (with_reducible repeat (first | apply Kd.R_alloc | apply Kd.R_drewN | apply Kd.R_drew)); exact HO18.out⟩, ⟨by (with_reducible repeat (first | apply Kd.R_alloc | apply Kd.R_drewN | apply Kd.R_drew)); exact Kd.R_mono HO21.out (fun _ hk => ⟨hk.2, hk.1⟩)⟩, ⟨by (with_reducible repeat (first | apply Kd.R_alloc | apply Kd.R_drewN | apply Kd.R_drew)); exact Kd.R_mono HO24.out (fun _ hk => ⟨hk.2, hk.1⟩)⟩, ⟨kM BK11.out⟩, ⟨kM BK31.out⟩, ⟨by repeat ((with_reducible first | exact HB.out ))⟩⟩
      case round =>
       clear H'
       try clear c23b0
       try clear c23b1
       try clear c24b0
       try clear c24b1
       try clear hcz25_0
       try clear hcz25_1
       try clear hcz25_2
       try clear hcz30_0
       try clear hcz30_1
       try clear hcz30_2
       try clear hfz25_0
       try clear hfz25_1
       try clear hfz25_2
       try clear hfz30_0
       try clear hfz30_1
       try clear hfz30_2
       obtain ⟨x13_2, x14_2, x15_2, rfl, HA, HK2, HO_10, HO_12, HO_13, HO_14, HO_32000, HO_32001, HO_32002, BK11, BK31, HB⟩ := hrel
       cases gk with
       | zero => exact absurd HA.out (by simp [roadbooklaw20_CallsOrder.l0])
       | succ k2 =>
        have H := HA.out
        clear HA
        simp only [roadbooklaw20_CallsOrder.l0] at H
        by_cases c37 : x15_2 < (t32.length : Int)
        ·rw [if_pos c37] at H
         have c37b0 : decide (x15_2 < (t32.length : Int)) = true := decide_eq_true c37
         clear c37
         by_cases c38 : 0 ≤ x15_2
         ·rw [if_pos c38] at H
          have c38b0 : decide (0 ≤ x15_2) = true := decide_eq_true c38
          clear c38
          by_cases c39 : ((rd_T68 t32 x15_2).f0) < 0
          ·rw [if_pos c39] at H
           have c39b0 : decide (((rd_T68 t32 x15_2).f0) < 0) = true := decide_eq_true c39
           clear c39
           exact absurd (HRT.out.symm.trans (Option.some.inj H).symm) (by decide)
          ·rw [if_neg c39] at H
           have c39b0 : decide (((rd_T68 t32 x15_2).f0) < 0) = false := decide_eq_false c39
           clear c39
           by_cases c40 : ((rd_T68 t32 x15_2).f0) ≥ (l1.length : Int)
           ·rw [if_pos c40] at H
            have c40b0 : decide ((l1.length : Int) ≤ ((rd_T68 t32 x15_2).f0)) = true := decide_eq_true c40
            clear c40
            exact absurd (HRT.out.symm.trans (Option.some.inj H).symm) (by decide)
           ·rw [if_neg c40] at H
            have c40b0 : decide ((l1.length : Int) ≤ ((rd_T68 t32 x15_2).f0)) = false := decide_eq_false c40
            clear c40
            by_cases c41 : 0 ≤ ((rd_T68 t32 x15_2).f0)
            ·rw [if_pos c41] at H
             have c41b0 : decide (0 ≤ ((rd_T68 t32 x15_2).f0)) = true := decide_eq_true c41
             clear c41
             by_cases c42 : ((rd_T68 t32 x15_2).f0) < (x14_2.length : Int)
             ·rw [if_pos c42] at H
              have c42b0 : decide (((rd_T68 t32 x15_2).f0) < (x14_2.length : Int)) = true := decide_eq_true c42
              clear c42
              by_cases c43 : ((rd_T68 t32 x15_2).f1) = (rd x14_2 ((rd_T68 t32 x15_2).f0))
              ·rw [if_pos c43] at H
               have c43b0 : (((rd_T68 t32 x15_2).f1) == (rd x14_2 ((rd_T68 t32 x15_2).f0))) = true := beq_iff_eq.mpr c43
               have c43b1 : (((rd_T68 t32 x15_2).f1) != (rd x14_2 ((rd_T68 t32 x15_2).f0))) = false := bne_eq_false_iff_eq.mpr c43
               clear c43
               by_cases c44 : ((rd_T68 t32 x15_2).f0) < (l1.length : Int)
               ·rw [if_pos c44] at H
                have c44b0 : decide (((rd_T68 t32 x15_2).f0) < (l1.length : Int)) = true := decide_eq_true c44
                clear c44
                by_cases c45 : ((rd_T68 t32 x15_2).f1) ≥ ((rd_L5 l1 ((rd_T68 t32 x15_2).f0)).length : Int)
                ·rw [if_pos c45] at H
                 have c45b0 : decide (((rd_L5 l1 ((rd_T68 t32 x15_2).f0)).length : Int) ≤ ((rd_T68 t32 x15_2).f1)) = true := decide_eq_true c45
                 clear c45
                 exact absurd (HRT.out.symm.trans (Option.some.inj H).symm) (by decide)
                ·rw [if_neg c45] at H
                 have c45b0 : decide (((rd_L5 l1 ((rd_T68 t32 x15_2).f0)).length : Int) ≤ ((rd_T68 t32 x15_2).f1)) = false := decide_eq_false c45
                 clear c45
                 obtain ⟨y42, hy42⟩ : ∃ y_ : List Int, y_ = (x14_2.set (((rd_T68 t32 x15_2).f0) : Int).toNat (wrap64 (((rd_T68 t32 x15_2).f1) + 1))) := ⟨_, rfl⟩
                 replace H : (if 0 ≤ ((rd_T68 t32 x15_2).f1) then (if ((rd_T68 t32 x15_2).f1) < ((rd_L5 l1 ((rd_T68 t32 x15_2).f0)).length : Int) then (if x13_2.length < 2513169434916 then (roadbooklaw20_CallsOrder.l0 k2 l1 t25 t32 (x13_2 ++ [(⟨(rd_T76 (rd_L5 l1 ((rd_T68 t32 x15_2).f0)) ((rd_T68 t32 x15_2).f1)).f0, (⟨(rd_T76 (rd_L5 l1 ((rd_T68 t32 x15_2).f0)) ((rd_T68 t32 x15_2).f1)).f1.f0, (rd_T76 (rd_L5 l1 ((rd_T68 t32 x15_2).f0)) ((rd_T68 t32 x15_2).f1)).f1.f1, (rd_T76 (rd_L5 l1 ((rd_T68 t32 x15_2).f0)) ((rd_T68 t32 x15_2).f1)).f1.f2, (rd_T76 (rd_L5 l1 ((rd_T68 t32 x15_2).f0)) ((rd_T68 t32 x15_2).f1)).f1.f3⟩ : S48), (rd_T76 (rd_L5 l1 ((rd_T68 t32 x15_2).f0)) ((rd_T68 t32 x15_2).f1)).f2, (rd_T76 (rd_L5 l1 ((rd_T68 t32 x15_2).f0)) ((rd_T68 t32 x15_2).f1)).f3⟩ : S76)]) y42 (wrap64 (x15_2 + 1)) l0_0 l0_1 l0_2 t16 t19 t22) else (none)) else (none)) else (none)) = some r := by (rw [hy42]; with_reducible exact H)
                 have Ny42 := Aside0.mk hy42
                 clear hy42
                 by_cases c47 : 0 ≤ ((rd_T68 t32 x15_2).f1)
                 ·rw [if_pos c47] at H
                  have c47b0 : decide (0 ≤ ((rd_T68 t32 x15_2).f1)) = true := decide_eq_true c47
                  clear c47
                  by_cases c48 : ((rd_T68 t32 x15_2).f1) < ((rd_L5 l1 ((rd_T68 t32 x15_2).f0)).length : Int)
                  ·rw [if_pos c48] at H
                   have c48b0 : decide (((rd_T68 t32 x15_2).f1) < ((rd_L5 l1 ((rd_T68 t32 x15_2).f0)).length : Int)) = true := decide_eq_true c48
                   clear c48
                   by_cases c49 : x13_2.length < 2513169434916
                   ·rw [if_pos c49] at H
                    have LMc49 := Aside0.mk c49
                    clear c49
                    obtain ⟨y45, hy45⟩ : ∃ y_ : List (S76), y_ = (x13_2 ++ [(⟨(rd_T76 (rd_L5 l1 ((rd_T68 t32 x15_2).f0)) ((rd_T68 t32 x15_2).f1)).f0, (⟨(rd_T76 (rd_L5 l1 ((rd_T68 t32 x15_2).f0)) ((rd_T68 t32 x15_2).f1)).f1.f0, (rd_T76 (rd_L5 l1 ((rd_T68 t32 x15_2).f0)) ((rd_T68 t32 x15_2).f1)).f1.f1, (rd_T76 (rd_L5 l1 ((rd_T68 t32 x15_2).f0)) ((rd_T68 t32 x15_2).f1)).f1.f2, (rd_T76 (rd_L5 l1 ((rd_T68 t32 x15_2).f0)) ((rd_T68 t32 x15_2).f1)).f1.f3⟩ : S48), (rd_T76 (rd_L5 l1 ((rd_T68 t32 x15_2).f0)) ((rd_T68 t32 x15_2).f1)).f2, (rd_T76 (rd_L5 l1 ((rd_T68 t32 x15_2).f0)) ((rd_T68 t32 x15_2).f1)).f3⟩ : S76)]) := ⟨_, rfl⟩
                    replace H : (roadbooklaw20_CallsOrder.l0 k2 l1 t25 t32 y45 y42 (wrap64 (x15_2 + 1)) l0_0 l0_1 l0_2 t16 t19 t22) = some r := by (rw [hy45]; with_reducible exact H)
                    have Ny45 := Aside0.mk hy45
                    clear hy45
                    have H' := Aside0.mk H
                    clear H
                    obtain ⟨Ao50, co50, eo50⟩ := Kd.R_slice HO_12.out
                    subst eo50
                    have p38 : 0 ≤ (x15_2 : Int) := of_decide_eq_true (by (with_reducible assumption))
                    have q38 : x15_2 < (t32.length : Int) := of_decide_eq_true (by (with_reducible assumption))
                    obtain ⟨ad38, e38, hx38_0, hx38_1, hx38_2⟩ := at_T68 (Kd.R_reads' HO_12.out).2.2 x15_2 p38 q38
                    cases e38
                    replace p38 := eq_true p38
                    replace q38 := eq_true q38
                    try go_wp2_with (((with_reducible refine gate_dst (N := 16) rfl ?_); (try (refine gate_guard (by rfl) ?_; dsimp only)); refine box_event ?hg (N := 16) ?hd (cs := #[.int .i64 0, .int .i64 0, .int .i64 0]) (t := 68) ?hr ?_; (case hd => rfl); (case hg => rfl); (case hr => first | (go_simp; done) ); intro gb39 hg w51 hbox hb; replace HO_10 := Aside0.mk (Kd.S_below (sM HO_10.out) hb); replace HO_12 := Aside0.mk (Kd.R_below (Kd.R_elderB (rM HO_12.out) gb39 (Nat.le_of_eq hg.symm)) hb); replace HO_13 := Aside0.mk (Kd.R_below (rM HO_13.out) hb); replace HO_14 := Aside0.mk (Kd.R_below (rM HO_14.out) hb); replace HO_32000 := Aside0.mk (Kd.R_below (rM HO_32000.out) hb); replace HO_32001 := Aside0.mk (Kd.R_below (rM HO_32001.out) hb); replace HO_32002 := Aside0.mk (Kd.R_below (rM HO_32002.out) hb); have BK39 := Aside0.mk (hbox); have GW39 := Aside0.mk ((by rw [hg]; exact (below_size (by exact wM HB.out)) : w.heap.size ≤ gb39)); have GE39 := Aside0.mk ((by rw [hg]; exact (below_size (by exact wM HB.out)) : w.heap.size ≤ gb39)); replace HB := Aside0.mk (below_step (by exact wM HB.out) hb); have NB11_39 := Aside0.mk ((by rw [hg]; exact Nat.ne_of_lt (blk_lt (kM BK11.out)) : gb11 ≠ gb39)); have NB39_11 := Aside0.mk ((by rw [hg]; exact Nat.ne_of_gt (blk_lt (kM BK11.out)) : gb39 ≠ gb11)); replace BK11 := Aside0.mk (blk_below (kM BK11.out) hb); have NB31_39 := Aside0.mk ((by rw [hg]; exact Nat.ne_of_lt (blk_lt (kM BK31.out)) : gb31 ≠ gb39)); have NB39_31 := Aside0.mk ((by rw [hg]; exact Nat.ne_of_gt (blk_lt (kM BK31.out)) : gb39 ≠ gb31)); replace BK31 := Aside0.mk (blk_below (kM BK31.out) hb); clear hb hbox hg; have hnb52 := NB39_11.out; have hnc52 := NB11_39.out; have hnb53 := NB39_31.out; have hnc53 := NB31_39.out; obtain ⟨hcz54_0, hcz54_1, hcz54_2, hfz54_0, hfz54_1, hfz54_2⟩ := bk3 BK39.out))
                    have n0_ : Aside0 (Kd.S (Kd.slice 73 k73) 71 (((w51.setCell ⟨gb39, 0, none⟩ (.int .i64 ((rd_T68 t32 x15_2).f0))).setCell ⟨gb39, 1, none⟩ (.int .i64 ((rd_T68 t32 x15_2).f1))).setCell ⟨gb39, 2, none⟩ (.int .i64 ((rd_T68 t32 x15_2).f2))) w.heap.size (fun _ => True) v26 t25) := ⟨by (with_reducible repeat (first | apply Kd.S_alloc | apply Kd.S_drewN | apply Kd.S_drew)); exact Kd.S_mono (Kd.S_far (p := ⟨gb39, 2, none⟩) (Kd.S_far (p := ⟨gb39, 1, none⟩) (Kd.S_far (p := ⟨gb39, 0, none⟩) (Kd.S_types HO_10.out BK39.out (by decide)) (fun _ hk => hk.2) (.int .i64 ((rd_T68 t32 x15_2).f0))) (fun _ hk => hk.2) (.int .i64 ((rd_T68 t32 x15_2).f1))) (fun _ hk => hk.2) (.int .i64 ((rd_T68 t32 x15_2).f2))) (fun _ hk => trivial)⟩
                    have n1_ : Aside0 (Kd.R k68 68 (((w51.setCell ⟨gb39, 0, none⟩ (.int .i64 ((rd_T68 t32 x15_2).f0))).setCell ⟨gb39, 1, none⟩ (.int .i64 ((rd_T68 t32 x15_2).f1))).setCell ⟨gb39, 2, none⟩ (.int .i64 ((rd_T68 t32 x15_2).f2))) w.heap.size (fun k_ => k_ ≠ gb39) (.slice (some ad38) t32.length co50) t32) := ⟨by (with_reducible repeat (first | apply Kd.R_alloc | apply Kd.R_drewN | apply Kd.R_drew)); exact Kd.R_mono (Kd.R_far (p := ⟨gb39, 2, none⟩) (Kd.R_far (p := ⟨gb39, 1, none⟩) (Kd.R_far (p := ⟨gb39, 0, none⟩) (Kd.R_mono HO_12.out (fun k_ hk => (⟨hk, hk.2⟩ : _ ∧ k_ ≠ gb39))) (fun _ hk => hk.2) (.int .i64 ((rd_T68 t32 x15_2).f0))) (fun _ hk => hk.2) (.int .i64 ((rd_T68 t32 x15_2).f1))) (fun _ hk => hk.2) (.int .i64 ((rd_T68 t32 x15_2).f2))) (fun _ hk => hk.1.2)⟩
                    have n2_ : Aside0 (Kd.R k76 76 (((w51.setCell ⟨gb39, 0, none⟩ (.int .i64 ((rd_T68 t32 x15_2).f0))).setCell ⟨gb39, 1, none⟩ (.int .i64 ((rd_T68 t32 x15_2).f1))).setCell ⟨gb39, 2, none⟩ (.int .i64 ((rd_T68 t32 x15_2).f2))) w.heap.size (fun _ => True) u13 x13_2) := ⟨by (with_reducible repeat (first | apply Kd.R_alloc | apply Kd.R_drewN | apply Kd.R_drew)); exact Kd.R_mono (Kd.R_far (p := ⟨gb39, 2, none⟩) (Kd.R_far (p := ⟨gb39, 1, none⟩) (Kd.R_far (p := ⟨gb39, 0, none⟩) (Kd.R_types HO_13.out BK39.out (by decide)) (fun _ hk => hk.2) (.int .i64 ((rd_T68 t32 x15_2).f0))) (fun _ hk => hk.2) (.int .i64 ((rd_T68 t32 x15_2).f1))) (fun _ hk => hk.2) (.int .i64 ((rd_T68 t32 x15_2).f2))) (fun _ hk => trivial)⟩
                    have n3_ : Aside0 (Kd.R (Kd.int .i64) 3 (((w51.setCell ⟨gb39, 0, none⟩ (.int .i64 ((rd_T68 t32 x15_2).f0))).setCell ⟨gb39, 1, none⟩ (.int .i64 ((rd_T68 t32 x15_2).f1))).setCell ⟨gb39, 2, none⟩ (.int .i64 ((rd_T68 t32 x15_2).f2))) w.heap.size (fun k_ => some k_ ≠ (.slice Ao31 t19.length co31 : Value).ownBlock ∧ some k_ ≠ (.slice Ao32 t22.length co32 : Value).ownBlock) v36 x14_2) := ⟨by (with_reducible repeat (first | apply Kd.R_alloc | apply Kd.R_drewN | apply Kd.R_drew)); exact Kd.R_mono (Kd.R_far (p := ⟨gb39, 2, none⟩) (Kd.R_far (p := ⟨gb39, 1, none⟩) (Kd.R_far (p := ⟨gb39, 0, none⟩) (Kd.R_types HO_14.out BK39.out (by decide)) (fun _ hk => hk.2) (.int .i64 ((rd_T68 t32 x15_2).f0))) (fun _ hk => hk.2) (.int .i64 ((rd_T68 t32 x15_2).f1))) (fun _ hk => hk.2) (.int .i64 ((rd_T68 t32 x15_2).f2))) (fun _ hk => ⟨hk.1.1, hk.1.2⟩)⟩
                    have n4_ : Aside0 (Kd.R k48 48 (((w51.setCell ⟨gb39, 0, none⟩ (.int .i64 ((rd_T68 t32 x15_2).f0))).setCell ⟨gb39, 1, none⟩ (.int .i64 ((rd_T68 t32 x15_2).f1))).setCell ⟨gb39, 2, none⟩ (.int .i64 ((rd_T68 t32 x15_2).f2))) w.heap.size (fun _ => True) (.slice Ao28 t16.length co28) t16) := ⟨by (with_reducible repeat (first | apply Kd.R_alloc | apply Kd.R_drewN | apply Kd.R_drew)); exact Kd.R_mono (Kd.R_far (p := ⟨gb39, 2, none⟩) (Kd.R_far (p := ⟨gb39, 1, none⟩) (Kd.R_far (p := ⟨gb39, 0, none⟩) (Kd.R_types HO_32000.out BK39.out (by decide)) (fun _ hk => hk.2) (.int .i64 ((rd_T68 t32 x15_2).f0))) (fun _ hk => hk.2) (.int .i64 ((rd_T68 t32 x15_2).f1))) (fun _ hk => hk.2) (.int .i64 ((rd_T68 t32 x15_2).f2))) (fun _ hk => trivial)⟩
                    have n5_ : Aside0 (Kd.R (Kd.int .i64) 3 (((w51.setCell ⟨gb39, 0, none⟩ (.int .i64 ((rd_T68 t32 x15_2).f0))).setCell ⟨gb39, 1, none⟩ (.int .i64 ((rd_T68 t32 x15_2).f1))).setCell ⟨gb39, 2, none⟩ (.int .i64 ((rd_T68 t32 x15_2).f2))) w.heap.size (fun k_ => some k_ ≠ (v36 : Value).ownBlock ∧ some k_ ≠ (.slice Ao32 t22.length co32 : Value).ownBlock) (.slice Ao31 t19.length co31) t19) := ⟨by (with_reducible repeat (first | apply Kd.R_alloc | apply Kd.R_drewN | apply Kd.R_drew)); exact Kd.R_mono (Kd.R_far (p := ⟨gb39, 2, none⟩) (Kd.R_far (p := ⟨gb39, 1, none⟩) (Kd.R_far (p := ⟨gb39, 0, none⟩) (Kd.R_types HO_32001.out BK39.out (by decide)) (fun _ hk => hk.2) (.int .i64 ((rd_T68 t32 x15_2).f0))) (fun _ hk => hk.2) (.int .i64 ((rd_T68 t32 x15_2).f1))) (fun _ hk => hk.2) (.int .i64 ((rd_T68 t32 x15_2).f2))) (fun _ hk => ⟨hk.1.1, hk.1.2⟩)⟩
                    have n6_ : Aside0 (Kd.R (Kd.int .i64) 3 (((w51.setCell ⟨gb39, 0, none⟩ (.int .i64 ((rd_T68 t32 x15_2).f0))).setCell ⟨gb39, 1, none⟩ (.int .i64 ((rd_T68 t32 x15_2).f1))).setCell ⟨gb39, 2, none⟩ (.int .i64 ((rd_T68 t32 x15_2).f2))) w.heap.size (fun k_ => some k_ ≠ (v36 : Value).ownBlock ∧ some k_ ≠ (.slice Ao31 t19.length co31 : Value).ownBlock) (.slice Ao32 t22.length co32) t22) := ⟨by (with_reducible repeat (first | apply Kd.R_alloc | apply Kd.R_drewN | apply Kd.R_drew)); exact Kd.R_mono (Kd.R_far (p := ⟨gb39, 2, none⟩) (Kd.R_far (p := ⟨gb39, 1, none⟩) (Kd.R_far (p := ⟨gb39, 0, none⟩) (Kd.R_types HO_32002.out BK39.out (by decide)) (fun _ hk => hk.2) (.int .i64 ((rd_T68 t32 x15_2).f0))) (fun _ hk => hk.2) (.int .i64 ((rd_T68 t32 x15_2).f1))) (fun _ hk => hk.2) (.int .i64 ((rd_T68 t32 x15_2).f2))) (fun _ hk => ⟨hk.1.1, hk.1.2⟩)⟩
                    have n7_ : Aside0 ((((w51.setCell ⟨gb39, 0, none⟩ (.int .i64 ((rd_T68 t32 x15_2).f0))).setCell ⟨gb39, 1, none⟩ (.int .i64 ((rd_T68 t32 x15_2).f1))).setCell ⟨gb39, 2, none⟩ (.int .i64 ((rd_T68 t32 x15_2).f2))).heap[gb11]? = some (.cells #[.slice A0_0 l0_0.length c0_0, .slice A0_1 l0_1.length c0_1, .slice A0_2 l0_2.length c0_2] 38 (0, 0))) := ⟨by (with_reducible repeat (first | refine blk_drewN ?_ _ | refine blk_drew ?_ | refine blk_alloc ?_ _)); refine blk_far ?_ NB11_39.out _; (with_reducible repeat (first | refine blk_drewN ?_ _ | refine blk_drew ?_ | refine blk_alloc ?_ _)); refine blk_far ?_ NB11_39.out _; (with_reducible repeat (first | refine blk_drewN ?_ _ | refine blk_drew ?_ | refine blk_alloc ?_ _)); refine blk_far ?_ NB11_39.out _; (with_reducible repeat (first | refine blk_drewN ?_ _ | refine blk_drew ?_ | refine blk_alloc ?_ _)); exact BK11.out⟩
                    have n8_ : Aside0 ((((w51.setCell ⟨gb39, 0, none⟩ (.int .i64 ((rd_T68 t32 x15_2).f0))).setCell ⟨gb39, 1, none⟩ (.int .i64 ((rd_T68 t32 x15_2).f1))).setCell ⟨gb39, 2, none⟩ (.int .i64 ((rd_T68 t32 x15_2).f2))).heap[gb31]? = some (.cells #[.slice Ao28 t16.length co28, .slice Ao31 t19.length co31, .slice Ao32 t22.length co32] 38 (0, 0))) := ⟨by (with_reducible repeat (first | refine blk_drewN ?_ _ | refine blk_drew ?_ | refine blk_alloc ?_ _)); refine blk_far ?_ NB31_39.out _; (with_reducible repeat (first | refine blk_drewN ?_ _ | refine blk_drew ?_ | refine blk_alloc ?_ _)); refine blk_far ?_ NB31_39.out _; (with_reducible repeat (first | refine blk_drewN ?_ _ | refine blk_drew ?_ | refine blk_alloc ?_ _)); refine blk_far ?_ NB31_39.out _; (with_reducible repeat (first | refine blk_drewN ?_ _ | refine blk_drew ?_ | refine blk_alloc ?_ _)); exact BK31.out⟩
                    have n9_ : Aside0 ((((w51.setCell ⟨gb39, 0, none⟩ (.int .i64 ((rd_T68 t32 x15_2).f0))).setCell ⟨gb39, 1, none⟩ (.int .i64 ((rd_T68 t32 x15_2).f1))).setCell ⟨gb39, 2, none⟩ (.int .i64 ((rd_T68 t32 x15_2).f2))).heap[gb39]? = some (.cells #[.int .i64 ((rd_T68 t32 x15_2).f0), .int .i64 ((rd_T68 t32 x15_2).f1), .int .i64 ((rd_T68 t32 x15_2).f2)] 68 (0, 0))) := ⟨by (with_reducible repeat (first | refine blk_drewN ?_ _ | refine blk_drew ?_ | refine blk_alloc ?_ _)); refine blk_put (cs := #[.int .i64 ((rd_T68 t32 x15_2).f0), .int .i64 ((rd_T68 t32 x15_2).f1), .int .i64 0]) ?_ 2 _ rfl; (with_reducible repeat (first | refine blk_drewN ?_ _ | refine blk_drew ?_ | refine blk_alloc ?_ _)); refine blk_put (cs := #[.int .i64 ((rd_T68 t32 x15_2).f0), .int .i64 0, .int .i64 0]) ?_ 1 _ rfl; (with_reducible repeat (first | refine blk_drewN ?_ _ | refine blk_drew ?_ | refine blk_alloc ?_ _)); refine blk_put (cs := #[.int .i64 0, .int .i64 0, .int .i64 0]) ?_ 0 _ rfl; (with_reducible repeat (first | refine blk_drewN ?_ _ | refine blk_drew ?_ | refine blk_alloc ?_ _)); exact BK39.out⟩
                    have n10_ : Aside0 (Below w.heap.size w (((w51.setCell ⟨gb39, 0, none⟩ (.int .i64 ((rd_T68 t32 x15_2).f0))).setCell ⟨gb39, 1, none⟩ (.int .i64 ((rd_T68 t32 x15_2).f1))).setCell ⟨gb39, 2, none⟩ (.int .i64 ((rd_T68 t32 x15_2).f2)))) := ⟨by repeat ((with_reducible first | exact HB.out | refine below_set ?_ GE39.out))⟩
                    (try clear HO_10)
                    (try clear HO_12)
                    (try clear HO_13)
                    (try clear HO_14)
                    (try clear HO_32000)
                    (try clear HO_32001)
                    (try clear HO_32002)
                    (try clear BK11)
                    (try clear BK31)
                    (try clear BK39)
                    (try clear HB)
                    generalize (((w51.setCell ⟨gb39, 0, none⟩ (.int .i64 ((rd_T68 t32 x15_2).f0))).setCell ⟨gb39, 1, none⟩ (.int .i64 ((rd_T68 t32 x15_2).f1))).setCell ⟨gb39, 2, none⟩ (.int .i64 ((rd_T68 t32 x15_2).f2))) = w55 at n0_ n1_ n2_ n3_ n4_ n5_ n6_ n7_ n8_ n9_ n10_ ⊢
                    have HO_10 := n0_
                    have HO_12 := n1_
                    have HO_13 := n2_
                    have HO_14 := n3_
                    have HO_32000 := n4_
                    have HO_32001 := n5_
                    have HO_32002 := n6_
                    have BK11 := n7_
                    have BK31 := n8_
                    have BK39 := n9_
                    have HB := n10_
                    clear n0_ n1_ n2_ n3_ n4_ n5_ n6_ n7_ n8_ n9_ n10_
                    replace HO_10 := Aside0.mk (Kd.S_drew HO_10.out)
                    replace HO_12 := Aside0.mk (Kd.R_drew HO_12.out)
                    replace HO_13 := Aside0.mk (Kd.R_drew HO_13.out)
                    replace HO_14 := Aside0.mk (Kd.R_drew HO_14.out)
                    replace HO_32000 := Aside0.mk (Kd.R_drew HO_32000.out)
                    replace HO_32001 := Aside0.mk (Kd.R_drew HO_32001.out)
                    replace HO_32002 := Aside0.mk (Kd.R_drew HO_32002.out)
                    replace BK11 := Aside0.mk (blk_drew BK11.out)
                    replace BK31 := Aside0.mk (blk_drew BK31.out)
                    replace BK39 := Aside0.mk (blk_drew BK39.out)
                    replace HB := Aside0.mk (below_drew1 HB.out)
                    obtain ⟨Ao57, co57, eo57⟩ := Kd.R_slice HO_14.out
                    (subst eo57)
                    have p40 : 0 ≤ (((rd_T68 t32 x15_2).f0) : Int) := of_decide_eq_true (by (with_reducible assumption))
                    have q40 : ((rd_T68 t32 x15_2).f0) < (x14_2.length : Int) := of_decide_eq_true (by (with_reducible assumption))
                    obtain ⟨ad40, e40, hx40_0⟩ := Kd.at_int (Kd.R_reads' HO_14.out).2.2 ((rd_T68 t32 x15_2).f0) p40 q40
                    cases e40
                    replace p40 := eq_true p40
                    replace q40 := eq_true q40
                    have p41 : 0 ≤ (((rd_T68 t32 x15_2).f0) : Int) := of_decide_eq_true (by (with_reducible assumption))
                    have q41 : ((rd_T68 t32 x15_2).f0) < (l1.length : Int) := of_decide_eq_true (by (with_reducible assumption))
                    obtain ⟨ad41, A41_0, c41_0, e41, hx41_0, hl41_0, hi41_0⟩ := at_L5 HR1.out ((rd_T68 t32 x15_2).f0) p41 q41
                    have hw41_0 := hx41_0
                    cases e41
                    replace hx41_0 := (HB.out.cell (World.block_lt_of_cell? w _ hx41_0)).trans hx41_0
                    have HR41_0 := Aside0.mk hi41_0
                    have HC41_0 := Aside0.mk hl41_0
                    clear hi41_0 hl41_0
                    replace p41 := eq_true p41
                    replace q41 := eq_true q41
                    refine start_ (n := 31) (S := fun w' => w'.cell? ⟨gb39, 0, none⟩ = some (.int .i64 ((rd_T68 t32 x15_2).f0)) ∧ w'.cell? ⟨gb39, 1, none⟩ = some (.int .i64 ((rd_T68 t32 x15_2).f1)) ∧ w'.cell? ⟨gb39, 2, none⟩ = some (.int .i64 ((rd_T68 t32 x15_2).f2)) ∧ w'.cell? (ad40.add (((rd_T68 t32 x15_2).f0)).toNat) = some (.int .i64 (rd x14_2 ((rd_T68 t32 x15_2).f0))) ∧ w'.cell? (ad41.add (((rd_T68 t32 x15_2).f0)).toNat) = some (.slice A41_0 (rd_L5 l1 ((rd_T68 t32 x15_2).f0)).length c41_0)) (ds := []) #[false, false, false, false, false, false, false, false, false, false, false, false, false, false, false, false, false, false, false, false, false, false, false, false, false, false, false, false, false, false, false] (by kernel_rfl) rfl rfl ⟨(blk_cell BK39.out 0).trans rfl, (blk_cell BK39.out 1).trans rfl, (blk_cell BK39.out 2).trans rfl, hx40_0, ((HB.out.cell (World.block_lt_of_cell? w _ hw41_0)).trans hw41_0)⟩ (fun hHeld => ?_); refine with_tabW roadbooklaw20_CallsOrder.tab13 roadbooklaw20_CallsOrder.bits13 (fun HT_ HW_ => ?_)
                    generalize w55.drew = w56 at HO_10 HO_12 HO_13 HO_14 HO_32000 HO_32001 HO_32002 BK11 BK31 BK39 HB HR41_0 hx40_0 hx41_0 hHeld ⊢
                    refine pure_ (i := 0) (N := some 65) (v := ?_) (a' := ?_) #[true, false, false, false, false, false, false, false, false, false, false, false, false, false, false, false, false, false, false, false, false, false, false, false, false, false, false, false, false, false, false] rfl rfl (any_of HT_.out (by kernel_rfl)) (fun _ _ _ h => h) (Or.inl ⟨by rfl, ?_⟩) ?_ ?_
                    rotate_left
                    ·intro w'
                     go_simp
                     with_reducible rfl
                    rotate_left
                    ·simp only [Act.put, List.setIfInBounds_toArray, List.set_cons_zero, List.set_cons_succ, i64_w, i32_w]
                     rfl
                    refine take_ (i := 1) (N := some 66) (v := ?_) (a' := ?_) #[true, true, false, false, false, false, false, false, false, false, false, false, false, false, false, false, false, false, false, false, false, false, false, false, false, false, false, false, false, false, false] rfl rfl (take_ofW HT_.out HW_.out (by kernel_rfl)) (fun _ _ _ h => h) (Or.inl ⟨by rfl, ?_⟩) hHeld ?_ ?_
                    rotate_left
                    ·rintro w' ⟨s0, s1, s2, s3, s4⟩
                     go_simp
                     with_reducible rfl
                    rotate_left
                    ·simp only [Act.put, List.setIfInBounds_toArray, List.set_cons_zero, List.set_cons_succ, i64_w, i32_w]
                     rfl
                    refine pure_ (i := 2) (N := some 67) (v := ?_) (a' := ?_) #[true, true, true, false, false, false, false, false, false, false, false, false, false, false, false, false, false, false, false, false, false, false, false, false, false, false, false, false, false, false, false] rfl rfl (any_of HT_.out (by kernel_rfl)) (fun _ _ _ h => h) (Or.inl ⟨by rfl, ?_⟩) ?_ ?_
                    rotate_left
                    ·intro w'
                     go_simp
                     with_reducible rfl
                    rotate_left
                    ·simp only [Act.put, List.setIfInBounds_toArray, List.set_cons_zero, List.set_cons_succ, i64_w, i32_w]
                     rfl
                    refine pure_ (i := 3) (N := some 68) (v := ?_) (a' := ?_) #[true, true, true, true, false, false, false, false, false, false, false, false, false, false, false, false, false, false, false, false, false, false, false, false, false, false, false, false, false, false, false] rfl rfl (any_of HT_.out (by kernel_rfl)) (fun _ _ _ h => h) (Or.inl ⟨by rfl, ?_⟩) ?_ ?_
                    rotate_left
                    ·intro w'
                     go_simp
                     with_reducible rfl
                    rotate_left
                    ·simp only [Act.put, List.setIfInBounds_toArray, List.set_cons_zero, List.set_cons_succ, i64_w, i32_w]
                     rfl
                    refine pure_ (i := 4) (N := some 69) (v := ?_) (a' := ?_) #[true, true, true, true, true, false, false, false, false, false, false, false, false, false, false, false, false, false, false, false, false, false, false, false, false, false, false, false, false, false, false] rfl rfl (any_of HT_.out (by kernel_rfl)) (fun _ _ _ h => h) (Or.inl ⟨by rfl, ?_⟩) ?_ ?_
                    rotate_left
                    ·intro w'
                     go_simp
                     with_reducible rfl
                    rotate_left
                    ·simp only [Act.put, List.setIfInBounds_toArray, List.set_cons_zero, List.set_cons_succ, i64_w, i32_w]
                     rfl
                    refine pure_ (i := 6) (N := some 71) (v := ?_) (a' := ?_) #[true, true, true, true, true, false, true, false, false, false, false, false, false, false, false, false, false, false, false, false, false, false, false, false, false, false, false, false, false, false, false] rfl rfl (any_of HT_.out (by kernel_rfl)) (fun _ _ _ h => h) (Or.inl ⟨by rfl, ?_⟩) ?_ ?_
                    rotate_left
                    ·intro w'
                     go_simp
                     with_reducible rfl
                    rotate_left
                    ·simp only [Act.put, List.setIfInBounds_toArray, List.set_cons_zero, List.set_cons_succ, i64_w, i32_w]
                     rfl
                    refine pure_ (i := 7) (N := some 72) (v := ?_) (a' := ?_) #[true, true, true, true, true, false, true, true, false, false, false, false, false, false, false, false, false, false, false, false, false, false, false, false, false, false, false, false, false, false, false] rfl rfl (any_of HT_.out (by kernel_rfl)) (fun _ _ _ h => h) (Or.inl ⟨by rfl, ?_⟩) ?_ ?_
                    rotate_left
                    ·intro w'
                     go_simp
                     with_reducible rfl
                    rotate_left
                    ·simp only [Act.put, List.setIfInBounds_toArray, List.set_cons_zero, List.set_cons_succ, i64_w, i32_w]
                     rfl
                    refine take_ (i := 5) (N := some 70) (v := ?_) (a' := ?_) #[true, true, true, true, true, true, true, true, false, false, false, false, false, false, false, false, false, false, false, false, false, false, false, false, false, false, false, false, false, false, false] rfl rfl (take_ofW HT_.out HW_.out (by kernel_rfl)) (fun _ _ _ h => h) (Or.inl ⟨by rfl, ?_⟩) hHeld ?_ ?_
                    rotate_left
                    ·rintro w' ⟨s0, s1, s2, s3, s4⟩
                     go_simp
                     with_reducible rfl
                    rotate_left
                    ·simp only [Act.put, List.setIfInBounds_toArray, List.set_cons_zero, List.set_cons_succ, i64_w, i32_w]
                     rfl
                    refine pure_ (i := 8) (N := some 73) (v := ?_) (a' := ?_) #[true, true, true, true, true, true, true, true, true, false, false, false, false, false, false, false, false, false, false, false, false, false, false, false, false, false, false, false, false, false, false] rfl rfl (any_of HT_.out (by kernel_rfl)) (fun _ _ _ h => h) (Or.inl ⟨by rfl, ?_⟩) ?_ ?_
                    rotate_left
                    ·intro w'
                     go_simp
                     with_reducible rfl
                    rotate_left
                    ·simp only [Act.put, List.setIfInBounds_toArray, List.set_cons_zero, List.set_cons_succ, i64_w, i32_w]
                     rfl
                    refine pure_ (i := 9) (N := some 74) (v := ?_) (a' := ?_) #[true, true, true, true, true, true, true, true, true, true, false, false, false, false, false, false, false, false, false, false, false, false, false, false, false, false, false, false, false, false, false] rfl rfl (any_of HT_.out (by kernel_rfl)) (fun _ _ _ h => h) (Or.inl ⟨by rfl, ?_⟩) ?_ ?_
                    rotate_left
                    ·intro w'
                     go_simp
                     with_reducible rfl
                    rotate_left
                    ·simp only [Act.put, List.setIfInBounds_toArray, List.set_cons_zero, List.set_cons_succ, i64_w, i32_w]
                     rfl
                    refine pure_ (i := 10) (N := some 75) (v := ?_) (a' := ?_) #[true, true, true, true, true, true, true, true, true, true, true, false, false, false, false, false, false, false, false, false, false, false, false, false, false, false, false, false, false, false, false] rfl rfl (any_of HT_.out (by kernel_rfl)) (fun _ _ _ h => h) (Or.inl ⟨by rfl, ?_⟩) ?_ ?_
                    rotate_left
                    ·intro w'
                     go_simp
                     with_reducible rfl
                    rotate_left
                    ·simp only [Act.put, List.setIfInBounds_toArray, List.set_cons_zero, List.set_cons_succ, i64_w, i32_w]
                     rfl
                    refine pure_ (i := 11) (N := some 76) (v := ?_) (a' := ?_) #[true, true, true, true, true, true, true, true, true, true, true, true, false, false, false, false, false, false, false, false, false, false, false, false, false, false, false, false, false, false, false] rfl rfl (any_of HT_.out (by kernel_rfl)) (fun _ _ _ h => h) (Or.inl ⟨by rfl, ?_⟩) ?_ ?_
                    rotate_left
                    ·intro w'
                     go_simp
                     with_reducible rfl
                    rotate_left
                    ·simp only [Act.put, List.setIfInBounds_toArray, List.set_cons_zero, List.set_cons_succ, i64_w, i32_w]
                     rfl
                    refine pure_ (i := 13) (N := some 78) (v := ?_) (a' := ?_) #[true, true, true, true, true, true, true, true, true, true, true, true, false, true, false, false, false, false, false, false, false, false, false, false, false, false, false, false, false, false, false] rfl rfl (any_of HT_.out (by kernel_rfl)) (fun _ _ _ h => h) (Or.inl ⟨by rfl, ?_⟩) ?_ ?_
                    rotate_left
                    ·intro w'
                     go_simp
                     with_reducible rfl
                    rotate_left
                    ·simp only [Act.put, List.setIfInBounds_toArray, List.set_cons_zero, List.set_cons_succ, i64_w, i32_w]
                     rfl
                    refine pure_ (i := 14) (N := some 79) (v := ?_) (a' := ?_) #[true, true, true, true, true, true, true, true, true, true, true, true, false, true, true, false, false, false, false, false, false, false, false, false, false, false, false, false, false, false, false] rfl rfl (any_of HT_.out (by kernel_rfl)) (fun _ _ _ h => h) (Or.inl ⟨by rfl, ?_⟩) ?_ ?_
                    rotate_left
                    ·intro w'
                     go_simp
                     with_reducible rfl
                    rotate_left
                    ·simp only [Act.put, List.setIfInBounds_toArray, List.set_cons_zero, List.set_cons_succ, i64_w, i32_w]
                     rfl
                    refine take_ (i := 12) (N := some 77) (v := ?_) (a' := ?_) #[true, true, true, true, true, true, true, true, true, true, true, true, true, true, true, false, false, false, false, false, false, false, false, false, false, false, false, false, false, false, false] rfl rfl (take_ofW HT_.out HW_.out (by kernel_rfl)) (fun _ _ _ h => h) (Or.inl ⟨by rfl, ?_⟩) hHeld ?_ ?_
                    rotate_left
                    ·rintro w' ⟨s0, s1, s2, s3, s4⟩
                     go_simp
                     with_reducible rfl
                    rotate_left
                    ·simp only [Act.put, List.setIfInBounds_toArray, List.set_cons_zero, List.set_cons_succ, i64_w, i32_w]
                     rfl
                    refine take_ (i := 15) (N := some 80) (v := ?_) (a' := ?_) #[true, true, true, true, true, true, true, true, true, true, true, true, true, true, true, true, false, false, false, false, false, false, false, false, false, false, false, false, false, false, false] rfl rfl (take_ofW HT_.out HW_.out (by kernel_rfl)) (fun _ _ _ h => h) (Or.inl ⟨by rfl, ?_⟩) hHeld ?_ ?_
                    rotate_left
                    ·rintro w' ⟨s0, s1, s2, s3, s4⟩
                     go_simp
                     with_reducible rfl
                    rotate_left
                    ·simp only [Act.put, List.setIfInBounds_toArray, List.set_cons_zero, List.set_cons_succ, i64_w, i32_w]
                     rfl
                    refine pure_ (i := 16) (N := some 81) (v := ?_) (a' := ?_) #[true, true, true, true, true, true, true, true, true, true, true, true, true, true, true, true, true, false, false, false, false, false, false, false, false, false, false, false, false, false, false] rfl rfl (any_of HT_.out (by kernel_rfl)) (fun _ _ _ h => h) (Or.inl ⟨by rfl, ?_⟩) ?_ ?_
                    rotate_left
                    ·intro w'
                     go_simp
                     with_reducible rfl
                    rotate_left
                    ·simp only [Act.put, List.setIfInBounds_toArray, List.set_cons_zero, List.set_cons_succ, i64_w, i32_w]
                     rfl
                    refine take_ (i := 17) (N := some 82) (v := ?_) (a' := ?_) #[true, true, true, true, true, true, true, true, true, true, true, true, true, true, true, true, true, true, false, false, false, false, false, false, false, false, false, false, false, false, false] rfl rfl (take_ofW HT_.out HW_.out (by kernel_rfl)) (fun _ _ _ h => h) (Or.inl ⟨by rfl, ?_⟩) hHeld ?_ ?_
                    rotate_left
                    ·rintro w' ⟨s0, s1, s2, s3, s4⟩
                     go_simp
                     with_reducible rfl
                    rotate_left
                    ·simp only [Act.put, List.setIfInBounds_toArray, List.set_cons_zero, List.set_cons_succ, i64_w, i32_w]
                     rfl
                    refine pure_ (i := 18) (N := some 83) (v := ?_) (a' := ?_) #[true, true, true, true, true, true, true, true, true, true, true, true, true, true, true, true, true, true, true, false, false, false, false, false, false, false, false, false, false, false, false] rfl rfl (any_of HT_.out (by kernel_rfl)) (fun _ _ _ h => h) (Or.inl ⟨by rfl, ?_⟩) ?_ ?_
                    rotate_left
                    ·intro w'
                     go_simp
                     with_reducible rfl
                    rotate_left
                    ·simp only [Act.put, List.setIfInBounds_toArray, List.set_cons_zero, List.set_cons_succ, i64_w, i32_w]
                     rfl
                    refine pure_ (i := 19) (N := some 84) (v := ?_) (a' := ?_) #[true, true, true, true, true, true, true, true, true, true, true, true, true, true, true, true, true, true, true, true, false, false, false, false, false, false, false, false, false, false, false] rfl rfl (any_of HT_.out (by kernel_rfl)) (fun _ _ _ h => h) (Or.inl ⟨by rfl, ?_⟩) ?_ ?_
                    rotate_left
                    ·intro w'
                     go_simp
                     with_reducible rfl
                    rotate_left
                    ·simp only [Act.put, List.setIfInBounds_toArray, List.set_cons_zero, List.set_cons_succ, i64_w, i32_w]
                     rfl
                    refine pure_ (i := 20) (N := some 85) (v := ?_) (a' := ?_) #[true, true, true, true, true, true, true, true, true, true, true, true, true, true, true, true, true, true, true, true, true, false, false, false, false, false, false, false, false, false, false] rfl rfl (any_of HT_.out (by kernel_rfl)) (fun _ _ _ h => h) (Or.inl ⟨by rfl, ?_⟩) ?_ ?_
                    rotate_left
                    ·intro w'
                     go_simp
                     with_reducible rfl
                    rotate_left
                    ·simp only [Act.put, List.setIfInBounds_toArray, List.set_cons_zero, List.set_cons_succ, i64_w, i32_w]
                     rfl
                    refine pure_ (i := 21) (N := some 86) (v := ?_) (a' := ?_) #[true, true, true, true, true, true, true, true, true, true, true, true, true, true, true, true, true, true, true, true, true, true, false, false, false, false, false, false, false, false, false] rfl rfl (any_of HT_.out (by kernel_rfl)) (fun _ _ _ h => h) (Or.inl ⟨by rfl, ?_⟩) ?_ ?_
                    rotate_left
                    ·intro w'
                     go_simp
                     with_reducible rfl
                    rotate_left
                    ·simp only [Act.put, List.setIfInBounds_toArray, List.set_cons_zero, List.set_cons_succ, i64_w, i32_w]
                     rfl
                    refine pure_ (i := 23) (N := some 88) (v := ?_) (a' := ?_) #[true, true, true, true, true, true, true, true, true, true, true, true, true, true, true, true, true, true, true, true, true, true, false, true, false, false, false, false, false, false, false] rfl rfl (any_of HT_.out (by kernel_rfl)) (fun _ _ _ h => h) (Or.inl ⟨by rfl, ?_⟩) ?_ ?_
                    rotate_left
                    ·intro w'
                     go_simp
                     with_reducible rfl
                    rotate_left
                    ·simp only [Act.put, List.setIfInBounds_toArray, List.set_cons_zero, List.set_cons_succ, i64_w, i32_w]
                     rfl
                    refine pure_ (i := 24) (N := some 89) (v := ?_) (a' := ?_) #[true, true, true, true, true, true, true, true, true, true, true, true, true, true, true, true, true, true, true, true, true, true, false, true, true, false, false, false, false, false, false] rfl rfl (any_of HT_.out (by kernel_rfl)) (fun _ _ _ h => h) (Or.inl ⟨by rfl, ?_⟩) ?_ ?_
                    rotate_left
                    ·intro w'
                     go_simp
                     with_reducible rfl
                    rotate_left
                    ·simp only [Act.put, List.setIfInBounds_toArray, List.set_cons_zero, List.set_cons_succ, i64_w, i32_w]
                     rfl
                    refine take_ (i := 22) (N := some 87) (v := ?_) (a' := ?_) #[true, true, true, true, true, true, true, true, true, true, true, true, true, true, true, true, true, true, true, true, true, true, true, true, true, false, false, false, false, false, false] rfl rfl (take_ofW HT_.out HW_.out (by kernel_rfl)) (fun _ _ _ h => h) (Or.inl ⟨by rfl, ?_⟩) hHeld ?_ ?_
                    rotate_left
                    ·rintro w' ⟨s0, s1, s2, s3, s4⟩
                     go_simp
                     with_reducible rfl
                    rotate_left
                    ·simp only [Act.put, List.setIfInBounds_toArray, List.set_cons_zero, List.set_cons_succ, i64_w, i32_w]
                     rfl
                    refine take_ (i := 25) (N := some 90) (v := ?_) (a' := ?_) #[true, true, true, true, true, true, true, true, true, true, true, true, true, true, true, true, true, true, true, true, true, true, true, true, true, true, false, false, false, false, false] rfl rfl (take_ofW HT_.out HW_.out (by kernel_rfl)) (fun _ _ _ h => h) (Or.inl ⟨by rfl, ?_⟩) hHeld ?_ ?_
                    rotate_left
                    ·rintro w' ⟨s0, s1, s2, s3, s4⟩
                     go_simp
                     with_reducible rfl
                    rotate_left
                    ·simp only [Act.put, List.setIfInBounds_toArray, List.set_cons_zero, List.set_cons_succ, i64_w, i32_w]
                     rfl
                    refine pure_ (i := 26) (N := some 91) (v := ?_) (a' := ?_) #[true, true, true, true, true, true, true, true, true, true, true, true, true, true, true, true, true, true, true, true, true, true, true, true, true, true, true, false, false, false, false] rfl rfl (any_of HT_.out (by kernel_rfl)) (fun _ _ _ h => h) (Or.inl ⟨by rfl, ?_⟩) ?_ ?_
                    rotate_left
                    ·intro w'
                     go_simp
                     with_reducible rfl
                    rotate_left
                    ·simp only [Act.put, List.setIfInBounds_toArray, List.set_cons_zero, List.set_cons_succ, i64_w, i32_w]
                     rfl
                    refine take_ (i := 27) (N := some 92) (v := ?_) (a' := ?_) #[true, true, true, true, true, true, true, true, true, true, true, true, true, true, true, true, true, true, true, true, true, true, true, true, true, true, true, true, false, false, false] rfl rfl (take_ofW HT_.out HW_.out (by kernel_rfl)) (fun _ _ _ h => h) (Or.inl ⟨by rfl, ?_⟩) hHeld ?_ ?_
                    rotate_left
                    ·rintro w' ⟨s0, s1, s2, s3, s4⟩
                     go_simp
                     with_reducible rfl
                    rotate_left
                    ·simp only [Act.put, List.setIfInBounds_toArray, List.set_cons_zero, List.set_cons_succ, i64_w, i32_w]
                     rfl
                    refine pure_ (i := 28) (N := some 93) (v := ?_) (a' := ?_) #[true, true, true, true, true, true, true, true, true, true, true, true, true, true, true, true, true, true, true, true, true, true, true, true, true, true, true, true, true, false, false] rfl rfl (any_of HT_.out (by kernel_rfl)) (fun _ _ _ h => h) (Or.inl ⟨by rfl, ?_⟩) ?_ ?_
                    rotate_left
                    ·intro w'
                     go_simp
                     with_reducible rfl
                    rotate_left
                    ·simp only [Act.put, List.setIfInBounds_toArray, List.set_cons_zero, List.set_cons_succ, i64_w, i32_w]
                     rfl
                    refine pure_ (i := 29) (N := some 94) (v := ?_) (a' := ?_) #[true, true, true, true, true, true, true, true, true, true, true, true, true, true, true, true, true, true, true, true, true, true, true, true, true, true, true, true, true, true, false] rfl rfl (any_of HT_.out (by kernel_rfl)) (fun _ _ _ h => h) (Or.inl ⟨by rfl, ?_⟩) ?_ ?_
                    rotate_left
                    ·intro w'
                     go_simp
                     with_reducible rfl
                    rotate_left
                    ·simp only [Act.put, List.setIfInBounds_toArray, List.set_cons_zero, List.set_cons_succ, i64_w, i32_w]
                     rfl
                    refine pure_ (i := 30) (N := some 95) (v := ?_) (a' := ?_) #[true, true, true, true, true, true, true, true, true, true, true, true, true, true, true, true, true, true, true, true, true, true, true, true, true, true, true, true, true, true, true] rfl rfl (any_of HT_.out (by kernel_rfl)) (fun _ _ _ h => h) (Or.inl ⟨by rfl, ?_⟩) ?_ ?_
                    rotate_left
                    ·intro w'
                     go_simp
                     with_reducible rfl
                    rotate_left
                    ·simp only [Act.put, List.setIfInBounds_toArray, List.set_cons_zero, List.set_cons_succ, i64_w, i32_w]
                     rfl
                    refine done_ (done_of HT_.out (by kernel_rfl)) ?_
                    have hcz58_0 : w56.cell? ⟨gb39, 0, none⟩ = some (.int .i64 ((rd_T68 t32 x15_2).f0)) := (blk_cell BK39.out 0).trans rfl
                    have hcz58_1 : w56.cell? ⟨gb39, 1, none⟩ = some (.int .i64 ((rd_T68 t32 x15_2).f1)) := (blk_cell BK39.out 1).trans rfl
                    have hcz58_2 : w56.cell? ⟨gb39, 2, none⟩ = some (.int .i64 ((rd_T68 t32 x15_2).f2)) := (blk_cell BK39.out 2).trans rfl
                    have hfz58_0 := blk_frozen BK39.out 0
                    have hfz58_1 := blk_frozen BK39.out 1
                    have hfz58_2 := blk_frozen BK39.out 2
                    have p46 : 0 ≤ (((rd_T68 t32 x15_2).f0) : Int) := of_decide_eq_true (by (with_reducible assumption))
                    have q46 : (((rd_T68 t32 x15_2).f0) : Int) < ((x14_2.length : Int) : Int) := of_decide_eq_true (by (with_reducible assumption))
                    obtain ⟨go46, co46, eo46, gb46, gl46, cl46, HG46⟩ := Kd.R_form HO_14.out (by omega)
                    (cases eo46)
                    have GB46 := Aside0.mk gb46
                    have GG46 := Aside0.mk HG46
                    clear gb46 gl46 HG46
                    (simp only [add_plain] at hx40_0)
                    obtain ⟨hx46_0, hf46_0⟩ := Kd.R_celln 0 HO_14.out (((rd_T68 t32 x15_2).f0) : Int) p46 q46
                    replace p46 := eq_true p46
                    replace q46 := eq_true q46
                    obtain ⟨hy59_, hz59_⟩ := Kd.R_celln 0 HO_14.out (((rd_T68 t32 x15_2).f0) : Int) (of_decide_eq_true (by (with_reducible assumption))) (of_decide_eq_true (by (with_reducible assumption)))
                    have HP59 := Kd.R_putg HO_14.out (((rd_T68 t32 x15_2).f0) : Int) (wrap64 (((rd_T68 t32 x15_2).f1) + 1))
                    try go_wp2_with (((with_reducible refine gate_store (t := 3) (p := 102) rfl ?_); refine store_event (t := 3) (p := 102) (v := ?vo_w60) (w1 := (w56.setCell ⟨go46, (((rd_T68 t32 x15_2).f0) : Int).toNat, none⟩ (.int .i64 (wrap64 (((rd_T68 t32 x15_2).f1) + 1))))) ?hg ?ho ?hn ?hr ?_; (case ho => rfl); (case hg => rfl); (case hn => rfl); (case hr => first | (go_simp; done) ); intro w60 hw; have hg : w56.grownBy w60 (some go46) := (by rw [hw]; exact HP59.2); have hp_ : Kd.R (Kd.int .i64) 3 w60 w.heap.size (fun k_ => some k_ ≠ (.slice Ao31 t19.length co31 : Value).ownBlock ∧ some k_ ≠ (.slice Ao32 t22.length co32 : Value).ownBlock) (.slice (some ⟨go46, 0, none⟩) x14_2.length co57) y42 := (by rw [hw, Ny42.out]; exact HP59.1); clear HP59; replace HO_10 := Aside0.mk (Kd.S_over' (v := (.slice (some ⟨go46, 0, none⟩) x14_2.length co57)) (sM HO_10.out) (Kd.R_typed HO_14.out) (by decide) hg); replace HO_12 := Aside0.mk (Kd.R_over' (v := (.slice (some ⟨go46, 0, none⟩) x14_2.length co57)) (rM HO_12.out) (Kd.R_typed HO_14.out) (by decide) hg); replace HO_13 := Aside0.mk (Kd.R_over' (v := (.slice (some ⟨go46, 0, none⟩) x14_2.length co57)) (rM HO_13.out) (Kd.R_typed HO_14.out) (by decide) hg); replace HO_32000 := Aside0.mk (Kd.R_over' (v := (.slice (some ⟨go46, 0, none⟩) x14_2.length co57)) (rM HO_32000.out) (Kd.R_typed HO_14.out) (by decide) hg); replace HO_32001 := Aside0.mk (Kd.R_after (v := (.slice (some ⟨go46, 0, none⟩) x14_2.length co57)) (v1 := (.slice (some ⟨go46, 0, none⟩) x14_2.length co57)) (ok := (fun k_ => some k_ ≠ (.slice Ao32 t22.length co32 : Value).ownBlock)) (by (with_reducible repeat (first | apply Kd.R_alloc | apply Kd.R_drewN | apply Kd.R_drew)); exact Kd.R_mono HO_32001.out (fun _ hk => ⟨hk.2, hk.1⟩)) hg (.inl rfl)); replace HO_32002 := Aside0.mk (Kd.R_after (v := (.slice (some ⟨go46, 0, none⟩) x14_2.length co57)) (v1 := (.slice (some ⟨go46, 0, none⟩) x14_2.length co57)) (ok := (fun k_ => some k_ ≠ (.slice Ao31 t19.length co31 : Value).ownBlock)) (by (with_reducible repeat (first | apply Kd.R_alloc | apply Kd.R_drewN | apply Kd.R_drew)); exact Kd.R_mono HO_32002.out (fun _ hk => ⟨hk.2, hk.1⟩)) hg (.inl rfl)); replace BK11 := Aside0.mk (blk_grown (kM BK11.out) hg (Kd.R_ne HO_14.out BK11.out (by decide))); replace BK31 := Aside0.mk (blk_grown (kM BK31.out) hg (Kd.R_ne HO_14.out BK31.out (by decide))); replace BK39 := Aside0.mk (blk_grown (kM BK39.out) hg (Kd.R_ne HO_14.out BK39.out (by decide))); replace HO_14 := Aside0.mk (hp_); replace HB := Aside0.mk ((by rw [hw]; exact below_set (HB.out) GB46.out : Below w.heap.size w w60)); clear hg hw hp_))
                    replace HO_10 := Aside0.mk (Kd.S_drew HO_10.out)
                    replace HO_12 := Aside0.mk (Kd.R_drew HO_12.out)
                    replace HO_13 := Aside0.mk (Kd.R_drew HO_13.out)
                    replace HO_14 := Aside0.mk (Kd.R_drew HO_14.out)
                    replace HO_32000 := Aside0.mk (Kd.R_drew HO_32000.out)
                    replace HO_32001 := Aside0.mk (Kd.R_drew HO_32001.out)
                    replace HO_32002 := Aside0.mk (Kd.R_drew HO_32002.out)
                    replace BK11 := Aside0.mk (blk_drew BK11.out)
                    replace BK31 := Aside0.mk (blk_drew BK31.out)
                    replace BK39 := Aside0.mk (blk_drew BK39.out)
                    replace HB := Aside0.mk (below_drew1 HB.out)
                    have p43 : 0 ≤ (((rd_T68 t32 x15_2).f0) : Int) := of_decide_eq_true (by (with_reducible assumption))
                    have q43 : ((rd_T68 t32 x15_2).f0) < (l1.length : Int) := of_decide_eq_true (by (with_reducible assumption))
                    obtain ⟨ad43, A43_0, c43_0, e43, hx43_0, hl43_0, hi43_0⟩ := at_L5 HR1.out ((rd_T68 t32 x15_2).f0) p43 q43
                    have hw43_0 := hx43_0
                    obtain rfl : ad41 = ad43 := (by injection e43)
                    replace hx43_0 := (HB.out.cell (World.block_lt_of_cell? w _ hx43_0)).trans hx43_0
                    have HR43_0 := Aside0.mk hi43_0
                    have HC43_0 := Aside0.mk hl43_0
                    clear hi43_0 hl43_0
                    replace p43 := eq_true p43
                    replace q43 := eq_true q43
                    have p44 : 0 ≤ (((rd_T68 t32 x15_2).f1) : Int) := of_decide_eq_true (by (with_reducible assumption))
                    have q44 : ((rd_T68 t32 x15_2).f1) < ((rd_L5 l1 ((rd_T68 t32 x15_2).f0)).length : Int) := of_decide_eq_true (by (with_reducible assumption))
                    obtain ⟨ad44, e44, hx44_0, hx44_1, hx44_2, hx44_3, hx44_4, hx44_5, hx44_6⟩ := at_T76 HR43_0.out ((rd_T68 t32 x15_2).f1) p44 q44
                    have hw44_6 := hx44_6
                    have hw44_5 := hx44_5
                    have hw44_4 := hx44_4
                    have hw44_3 := hx44_3
                    have hw44_2 := hx44_2
                    have hw44_1 := hx44_1
                    have hw44_0 := hx44_0
                    cases e44
                    replace hx44_0 := (HB.out.cell (World.block_lt_of_cell? w _ hx44_0)).trans hx44_0
                    replace hx44_1 := (HB.out.cell (World.block_lt_of_cell? w _ hx44_1)).trans hx44_1
                    replace hx44_2 := (HB.out.cell (World.block_lt_of_cell? w _ hx44_2)).trans hx44_2
                    replace hx44_3 := (HB.out.cell (World.block_lt_of_cell? w _ hx44_3)).trans hx44_3
                    replace hx44_4 := (HB.out.cell (World.block_lt_of_cell? w _ hx44_4)).trans hx44_4
                    replace hx44_5 := (HB.out.cell (World.block_lt_of_cell? w _ hx44_5)).trans hx44_5
                    replace hx44_6 := (HB.out.cell (World.block_lt_of_cell? w _ hx44_6)).trans hx44_6
                    replace p44 := eq_true p44
                    replace q44 := eq_true q44
                    refine start_ (n := 13) (S := fun w' => w'.cell? ⟨gb39, 0, none⟩ = some (.int .i64 ((rd_T68 t32 x15_2).f0)) ∧ w'.cell? ⟨gb39, 1, none⟩ = some (.int .i64 ((rd_T68 t32 x15_2).f1)) ∧ w'.cell? ⟨gb39, 2, none⟩ = some (.int .i64 ((rd_T68 t32 x15_2).f2)) ∧ w'.cell? (ad41.add (((rd_T68 t32 x15_2).f0)).toNat) = some (.slice (some ad44) (rd_L5 l1 ((rd_T68 t32 x15_2).f0)).length c43_0) ∧ w'.cell? (ad44.add ((((rd_T68 t32 x15_2).f1)).toNat * 7)) = some (.int .i64 ((rd_T76 (rd_L5 l1 ((rd_T68 t32 x15_2).f0)) ((rd_T68 t32 x15_2).f1)).f0)) ∧ w'.cell? ⟨(ad44.add ((((rd_T68 t32 x15_2).f1)).toNat * 7)).block, (ad44.add ((((rd_T68 t32 x15_2).f1)).toNat * 7)).off + 1, none⟩ = some (.bool ((rd_T76 (rd_L5 l1 ((rd_T68 t32 x15_2).f0)) ((rd_T68 t32 x15_2).f1)).f1.f0)) ∧ w'.cell? ⟨(ad44.add ((((rd_T68 t32 x15_2).f1)).toNat * 7)).block, (ad44.add ((((rd_T68 t32 x15_2).f1)).toNat * 7)).off + 2, none⟩ = some (.int .i64 ((rd_T76 (rd_L5 l1 ((rd_T68 t32 x15_2).f0)) ((rd_T68 t32 x15_2).f1)).f1.f1)) ∧ w'.cell? ⟨(ad44.add ((((rd_T68 t32 x15_2).f1)).toNat * 7)).block, (ad44.add ((((rd_T68 t32 x15_2).f1)).toNat * 7)).off + 3, none⟩ = some (.int .i64 ((rd_T76 (rd_L5 l1 ((rd_T68 t32 x15_2).f0)) ((rd_T68 t32 x15_2).f1)).f1.f2)) ∧ w'.cell? ⟨(ad44.add ((((rd_T68 t32 x15_2).f1)).toNat * 7)).block, (ad44.add ((((rd_T68 t32 x15_2).f1)).toNat * 7)).off + 4, none⟩ = some (.int .i64 ((rd_T76 (rd_L5 l1 ((rd_T68 t32 x15_2).f0)) ((rd_T68 t32 x15_2).f1)).f1.f3)) ∧ w'.cell? ⟨(ad44.add ((((rd_T68 t32 x15_2).f1)).toNat * 7)).block, (ad44.add ((((rd_T68 t32 x15_2).f1)).toNat * 7)).off + 5, none⟩ = some (.int .i64 ((rd_T76 (rd_L5 l1 ((rd_T68 t32 x15_2).f0)) ((rd_T68 t32 x15_2).f1)).f2)) ∧ w'.cell? ⟨(ad44.add ((((rd_T68 t32 x15_2).f1)).toNat * 7)).block, (ad44.add ((((rd_T68 t32 x15_2).f1)).toNat * 7)).off + 6, none⟩ = some (.int .i64 ((rd_T76 (rd_L5 l1 ((rd_T68 t32 x15_2).f0)) ((rd_T68 t32 x15_2).f1)).f3))) (ds := []) #[false, false, false, false, false, false, false, false, false, false, false, false, false] (by kernel_rfl) rfl rfl ⟨(blk_cell BK39.out 0).trans rfl, (blk_cell BK39.out 1).trans rfl, (blk_cell BK39.out 2).trans rfl, ((HB.out.cell (World.block_lt_of_cell? w _ hw43_0)).trans hw43_0), ((HB.out.cell (World.block_lt_of_cell? w _ hw44_0)).trans hw44_0), ((HB.out.cell (World.block_lt_of_cell? w _ hw44_1)).trans hw44_1), ((HB.out.cell (World.block_lt_of_cell? w _ hw44_2)).trans hw44_2), ((HB.out.cell (World.block_lt_of_cell? w _ hw44_3)).trans hw44_3), ((HB.out.cell (World.block_lt_of_cell? w _ hw44_4)).trans hw44_4), ((HB.out.cell (World.block_lt_of_cell? w _ hw44_5)).trans hw44_5), ((HB.out.cell (World.block_lt_of_cell? w _ hw44_6)).trans hw44_6)⟩ (fun hHeld => ?_); refine with_tabW roadbooklaw20_CallsOrder.tab16 roadbooklaw20_CallsOrder.bits16 (fun HT_ HW_ => ?_)
                    generalize w60.drew = w61 at HO_10 HO_12 HO_13 HO_14 HO_32000 HO_32001 HO_32002 BK11 BK31 BK39 HB HR43_0 hx43_0 hx44_0 hx44_1 hx44_2 hx44_3 hx44_4 hx44_5 hx44_6 hHeld ⊢
                    refine pure_ (i := 0) (N := some 103) (v := ?_) (a' := ?_) #[true, false, false, false, false, false, false, false, false, false, false, false, false] rfl rfl (any_of HT_.out (by kernel_rfl)) (fun _ _ _ h => h) (Or.inl ⟨by rfl, ?_⟩) ?_ ?_
                    rotate_left
                    ·intro w'
                     go_simp
                     with_reducible rfl
                    rotate_left
                    ·simp only [Act.put, List.setIfInBounds_toArray, List.set_cons_zero, List.set_cons_succ, i64_w, i32_w]
                     rfl
                    refine pure_ (i := 1) (N := some 104) (v := ?_) (a' := ?_) #[true, true, false, false, false, false, false, false, false, false, false, false, false] rfl rfl (any_of HT_.out (by kernel_rfl)) (fun _ _ _ h => h) (Or.inl ⟨by rfl, ?_⟩) ?_ ?_
                    rotate_left
                    ·intro w'
                     go_simp
                     with_reducible rfl
                    rotate_left
                    ·simp only [Act.put, List.setIfInBounds_toArray, List.set_cons_zero, List.set_cons_succ, i64_w, i32_w]
                     rfl
                    refine pure_ (i := 2) (N := some 105) (v := ?_) (a' := ?_) #[true, true, true, false, false, false, false, false, false, false, false, false, false] rfl rfl (any_of HT_.out (by kernel_rfl)) (fun _ _ _ h => h) (Or.inl ⟨by rfl, ?_⟩) ?_ ?_
                    rotate_left
                    ·intro w'
                     go_simp
                     with_reducible rfl
                    rotate_left
                    ·simp only [Act.put, List.setIfInBounds_toArray, List.set_cons_zero, List.set_cons_succ, i64_w, i32_w]
                     rfl
                    refine pure_ (i := 6) (N := some 109) (v := ?_) (a' := ?_) #[true, true, true, false, false, false, true, false, false, false, false, false, false] rfl rfl (any_of HT_.out (by kernel_rfl)) (fun _ _ _ h => h) (Or.inl ⟨by rfl, ?_⟩) ?_ ?_
                    rotate_left
                    ·intro w'
                     go_simp
                     with_reducible rfl
                    rotate_left
                    ·simp only [Act.put, List.setIfInBounds_toArray, List.set_cons_zero, List.set_cons_succ, i64_w, i32_w]
                     rfl
                    refine take_ (i := 3) (N := some 106) (v := ?_) (a' := ?_) #[true, true, true, true, false, false, true, false, false, false, false, false, false] rfl rfl (take_ofW HT_.out HW_.out (by kernel_rfl)) (fun _ _ _ h => h) (Or.inl ⟨by rfl, ?_⟩) hHeld ?_ ?_
                    rotate_left
                    ·rintro w' ⟨s0, s1, s2, s3, s4, s5, s6, s7, s8, s9, s10⟩
                     go_simp
                     with_reducible rfl
                    rotate_left
                    ·simp only [Act.put, List.setIfInBounds_toArray, List.set_cons_zero, List.set_cons_succ, i64_w, i32_w]
                     rfl
                    refine pure_ (i := 4) (N := some 107) (v := ?_) (a' := ?_) #[true, true, true, true, true, false, true, false, false, false, false, false, false] rfl rfl (any_of HT_.out (by kernel_rfl)) (fun _ _ _ h => h) (Or.inl ⟨by rfl, ?_⟩) ?_ ?_
                    rotate_left
                    ·intro w'
                     go_simp
                     with_reducible rfl
                    rotate_left
                    ·simp only [Act.put, List.setIfInBounds_toArray, List.set_cons_zero, List.set_cons_succ, i64_w, i32_w]
                     rfl
                    refine take_ (i := 5) (N := some 108) (v := ?_) (a' := ?_) #[true, true, true, true, true, true, true, false, false, false, false, false, false] rfl rfl (take_ofW HT_.out HW_.out (by kernel_rfl)) (fun _ _ _ h => h) (Or.inl ⟨by rfl, ?_⟩) hHeld ?_ ?_
                    rotate_left
                    ·rintro w' ⟨s0, s1, s2, s3, s4, s5, s6, s7, s8, s9, s10⟩
                     go_simp
                     with_reducible rfl
                    rotate_left
                    ·simp only [Act.put, List.setIfInBounds_toArray, List.set_cons_zero, List.set_cons_succ, i64_w, i32_w]
                     rfl
                    refine take_ (i := 7) (N := some 110) (v := ?_) (a' := ?_) #[true, true, true, true, true, true, true, true, false, false, false, false, false] rfl rfl (take_ofW HT_.out HW_.out (by kernel_rfl)) (fun _ _ _ h => h) (Or.inl ⟨by rfl, ?_⟩) hHeld ?_ ?_
                    rotate_left
                    ·rintro w' ⟨s0, s1, s2, s3, s4, s5, s6, s7, s8, s9, s10⟩
                     go_simp
                     with_reducible rfl
                    rotate_left
                    ·simp only [Act.put, List.setIfInBounds_toArray, List.set_cons_zero, List.set_cons_succ, i64_w, i32_w]
                     rfl
                    refine pure_ (i := 8) (N := some 111) (v := ?_) (a' := ?_) #[true, true, true, true, true, true, true, true, true, false, false, false, false] rfl rfl (any_of HT_.out (by kernel_rfl)) (fun _ _ _ h => h) (Or.inl ⟨by rfl, ?_⟩) ?_ ?_
                    rotate_left
                    ·intro w'
                     go_simp
                     with_reducible rfl
                    rotate_left
                    ·simp only [Act.put, List.setIfInBounds_toArray, List.set_cons_zero, List.set_cons_succ, i64_w, i32_w]
                     rfl
                    refine take_ (i := 9) (N := some 112) (v := ?_) (a' := ?_) #[true, true, true, true, true, true, true, true, true, true, false, false, false] rfl rfl (take_ofW HT_.out HW_.out (by kernel_rfl)) (fun _ _ _ h => h) (Or.inl ⟨by rfl, ?_⟩) hHeld ?_ ?_
                    rotate_left
                    ·rintro w' ⟨s0, s1, s2, s3, s4, s5, s6, s7, s8, s9, s10⟩
                     go_simp
                     with_reducible rfl
                    rotate_left
                    ·simp only [Act.put, List.setIfInBounds_toArray, List.set_cons_zero, List.set_cons_succ, i64_w, i32_w]
                     rfl
                    refine one_ (i := 10) (N := some 113) #[true, true, true, true, true, true, true, true, true, true, true, false, false] rfl rfl (one_of HT_.out (by kernel_rfl)) (by decide) (fun K hK => ?_)
                    refine value_ (w1 := ?_) (v := ?_) (by rfl) rfl ?_ ?_
                    rotate_left 2
                    ·go_simp
                     constructor
                     ·rfl
                     ·rfl
                    refine hK.out _ _ ⟨(blk_cell (blk_alloc BK39.out _) 0).trans rfl, (blk_cell (blk_alloc BK39.out _) 1).trans rfl, (blk_cell (blk_alloc BK39.out _) 2).trans rfl, (World.cell?_alloc_lt _ _ _ (World.block_lt_of_cell? _ _ (((HB.out.cell (World.block_lt_of_cell? w _ hw43_0)).trans hw43_0)))).trans (((HB.out.cell (World.block_lt_of_cell? w _ hw43_0)).trans hw43_0)), (World.cell?_alloc_lt _ _ _ (World.block_lt_of_cell? _ _ (((HB.out.cell (World.block_lt_of_cell? w _ hw44_0)).trans hw44_0)))).trans (((HB.out.cell (World.block_lt_of_cell? w _ hw44_0)).trans hw44_0)), (World.cell?_alloc_lt _ _ _ (World.block_lt_of_cell? _ _ (((HB.out.cell (World.block_lt_of_cell? w _ hw44_1)).trans hw44_1)))).trans (((HB.out.cell (World.block_lt_of_cell? w _ hw44_1)).trans hw44_1)), (World.cell?_alloc_lt _ _ _ (World.block_lt_of_cell? _ _ (((HB.out.cell (World.block_lt_of_cell? w _ hw44_2)).trans hw44_2)))).trans (((HB.out.cell (World.block_lt_of_cell? w _ hw44_2)).trans hw44_2)), (World.cell?_alloc_lt _ _ _ (World.block_lt_of_cell? _ _ (((HB.out.cell (World.block_lt_of_cell? w _ hw44_3)).trans hw44_3)))).trans (((HB.out.cell (World.block_lt_of_cell? w _ hw44_3)).trans hw44_3)), (World.cell?_alloc_lt _ _ _ (World.block_lt_of_cell? _ _ (((HB.out.cell (World.block_lt_of_cell? w _ hw44_4)).trans hw44_4)))).trans (((HB.out.cell (World.block_lt_of_cell? w _ hw44_4)).trans hw44_4)), (World.cell?_alloc_lt _ _ _ (World.block_lt_of_cell? _ _ (((HB.out.cell (World.block_lt_of_cell? w _ hw44_5)).trans hw44_5)))).trans (((HB.out.cell (World.block_lt_of_cell? w _ hw44_5)).trans hw44_5)), (World.cell?_alloc_lt _ _ _ (World.block_lt_of_cell? _ _ (((HB.out.cell (World.block_lt_of_cell? w _ hw44_6)).trans hw44_6)))).trans (((HB.out.cell (World.block_lt_of_cell? w _ hw44_6)).trans hw44_6))⟩ (fun hHeld => ?_)
                    clear hK K
                    refine norm_ (a' := ?_) ?_ ?_
                    rotate_left
                    ·show Act.put _ (some 113) _ = _
                     simp only [Act.put, List.setIfInBounds_toArray, List.set_cons_zero, List.set_cons_succ, i64_w, i32_w]
                     rfl
                    refine one_ (i := 11) (N := some 114) #[true, true, true, true, true, true, true, true, true, true, true, true, false] rfl rfl (one_of HT_.out (by kernel_rfl)) (by decide) (fun K hK => ?_)
                    refine Kd.R_append_step k76 (w0 := w) w.heap.size (by rfl) (.tmp 103) (.tmp 113) 66 76 (.agg #[(.int .i64 0), (.bool false), (.int .i64 0), (.int .i64 0), (.int .i64 0), (.int .i64 0), (.int .i64 0)]) 56 rfl Try.underlying66 info76 rfl (by decide) (by omega) u13 x13_2 (⟨(rd_T76 (rd_L5 l1 ((rd_T68 t32 x15_2).f0)) ((rd_T68 t32 x15_2).f1)).f0, (⟨(rd_T76 (rd_L5 l1 ((rd_T68 t32 x15_2).f0)) ((rd_T68 t32 x15_2).f1)).f1.f0, (rd_T76 (rd_L5 l1 ((rd_T68 t32 x15_2).f0)) ((rd_T68 t32 x15_2).f1)).f1.f1, (rd_T76 (rd_L5 l1 ((rd_T68 t32 x15_2).f0)) ((rd_T68 t32 x15_2).f1)).f1.f2, (rd_T76 (rd_L5 l1 ((rd_T68 t32 x15_2).f0)) ((rd_T68 t32 x15_2).f1)).f1.f3⟩ : S48), (rd_T76 (rd_L5 l1 ((rd_T68 t32 x15_2).f0)) ((rd_T68 t32 x15_2).f1)).f2, (rd_T76 (rd_L5 l1 ((rd_T68 t32 x15_2).f0)) ((rd_T68 t32 x15_2).f1)).f3⟩ : S76) [.int .i64 ((rd_T76 (rd_L5 l1 ((rd_T68 t32 x15_2).f0)) ((rd_T68 t32 x15_2).f1)).f0), .bool ((rd_T76 (rd_L5 l1 ((rd_T68 t32 x15_2).f0)) ((rd_T68 t32 x15_2).f1)).f1.f0), .int .i64 ((rd_T76 (rd_L5 l1 ((rd_T68 t32 x15_2).f0)) ((rd_T68 t32 x15_2).f1)).f1.f1), .int .i64 ((rd_T76 (rd_L5 l1 ((rd_T68 t32 x15_2).f0)) ((rd_T68 t32 x15_2).f1)).f1.f2), .int .i64 ((rd_T76 (rd_L5 l1 ((rd_T68 t32 x15_2).f0)) ((rd_T68 t32 x15_2).f1)).f1.f3), .int .i64 ((rd_T76 (rd_L5 l1 ((rd_T68 t32 x15_2).f0)) ((rd_T68 t32 x15_2).f1)).f2), .int .i64 ((rd_T76 (rd_L5 l1 ((rd_T68 t32 x15_2).f0)) ((rd_T68 t32 x15_2).f1)).f3)] (fun _ => True) (fun _ => False) rfl rfl ?aP (fun _ hk => hk.elim) ?aF ?aO ?aB ?aS ?aL ?_
                    (case aP => exact k76_mkM _ _ _ (⟨(rd_T76 (rd_L5 l1 ((rd_T68 t32 x15_2).f0)) ((rd_T68 t32 x15_2).f1)).f0, (⟨(rd_T76 (rd_L5 l1 ((rd_T68 t32 x15_2).f0)) ((rd_T68 t32 x15_2).f1)).f1.f0, (rd_T76 (rd_L5 l1 ((rd_T68 t32 x15_2).f0)) ((rd_T68 t32 x15_2).f1)).f1.f1, (rd_T76 (rd_L5 l1 ((rd_T68 t32 x15_2).f0)) ((rd_T68 t32 x15_2).f1)).f1.f2, (rd_T76 (rd_L5 l1 ((rd_T68 t32 x15_2).f0)) ((rd_T68 t32 x15_2).f1)).f1.f3⟩ : S48), (rd_T76 (rd_L5 l1 ((rd_T68 t32 x15_2).f0)) ((rd_T68 t32 x15_2).f1)).f2, (rd_T76 (rd_L5 l1 ((rd_T68 t32 x15_2).f0)) ((rd_T68 t32 x15_2).f1)).f3⟩ : S76))
                    (case aB => exact (by exact wM HB.out))
                    (case aF => exact (fun _ _ => trivial))
                    (case aO => exact (rM HO_13.out))
                    (case aS => exact (below_size (by exact wM HB.out)))
                    (case aL => have := LMc49.out; omega)
                    intro v46 w62 ho hb hg hat
                    rw [← Ny45.out] at ho
                    replace HO_10 := Aside0.mk (Kd.S_over' (sM HO_10.out) (Kd.R_typed (rM HO_13.out)) (by decide) hg)
                    replace HO_12 := Aside0.mk (Kd.R_over' (rM HO_12.out) (Kd.R_typed (rM HO_13.out)) (by decide) hg)
                    replace HO_14 := Aside0.mk (Kd.R_over' (rM HO_14.out) (Kd.R_typed (rM HO_13.out)) (by decide) hg)
                    replace HO_32000 := Aside0.mk (Kd.R_over' (rM HO_32000.out) (Kd.R_typed (rM HO_13.out)) (by decide) hg)
                    replace HO_32001 := Aside0.mk (Kd.R_over' (rM HO_32001.out) (Kd.R_typed (rM HO_13.out)) (by decide) hg)
                    replace HO_32002 := Aside0.mk (Kd.R_over' (rM HO_32002.out) (Kd.R_typed (rM HO_13.out)) (by decide) hg)
                    replace BK11 := Aside0.mk (blk_grown (kM BK11.out) hg (Kd.R_ne HO_13.out BK11.out (by decide)))
                    replace BK31 := Aside0.mk (blk_grown (kM BK31.out) hg (Kd.R_ne HO_13.out BK31.out (by decide)))
                    replace BK39 := Aside0.mk (blk_grown (kM BK39.out) hg (Kd.R_ne HO_13.out BK39.out (by decide)))
                    replace HB := Aside0.mk (hb)
                    have HO47 := Aside0.mk (ho)
                    clear HO_13
                    clear ho hb hg hat
                    refine hK.out _ _ ⟨(blk_cell BK39.out 0).trans rfl, (blk_cell BK39.out 1).trans rfl, (blk_cell BK39.out 2).trans rfl, ((HB.out.cell (World.block_lt_of_cell? w _ hw43_0)).trans hw43_0), ((HB.out.cell (World.block_lt_of_cell? w _ hw44_0)).trans hw44_0), ((HB.out.cell (World.block_lt_of_cell? w _ hw44_1)).trans hw44_1), ((HB.out.cell (World.block_lt_of_cell? w _ hw44_2)).trans hw44_2), ((HB.out.cell (World.block_lt_of_cell? w _ hw44_3)).trans hw44_3), ((HB.out.cell (World.block_lt_of_cell? w _ hw44_4)).trans hw44_4), ((HB.out.cell (World.block_lt_of_cell? w _ hw44_5)).trans hw44_5), ((HB.out.cell (World.block_lt_of_cell? w _ hw44_6)).trans hw44_6)⟩ (fun hHeld => ?_)
                    clear hK K
                    refine norm_ (a' := ?_) ?_ ?_
                    rotate_left
                    ·show Act.put _ (some 114) _ = _
                     simp only [Act.put, List.setIfInBounds_toArray, List.set_cons_zero, List.set_cons_succ, i64_w, i32_w]
                     rfl
                    refine pure_ (i := 12) (N := some 13) (v := ?_) (a' := ?_) #[true, true, true, true, true, true, true, true, true, true, true, true, true] rfl rfl (any_of HT_.out (by kernel_rfl)) (fun _ _ _ h => h) (Or.inl ⟨by rfl, ?_⟩) ?_ ?_
                    rotate_left
                    ·intro w'
                     go_simp
                     with_reducible rfl
                    rotate_left
                    ·simp only [Act.put, List.setIfInBounds_toArray, List.set_cons_zero, List.set_cons_succ, i64_w, i32_w]
                     rfl
                    refine done_ (done_of HT_.out (by kernel_rfl)) ?_
                    try go_wp2
                    go_roundg k2
                    case measure => have := HJ5.out; have := HK2.out; omega
                    case rel => exact ⟨(y45), (y42), (wrap64 (x15_2 + 1)), (by rfl), H', ⟨by have := HJ5.out; have := HK2.out; omega⟩, ⟨by (with_reducible repeat (first | apply Kd.S_alloc | apply Kd.S_drewN | apply Kd.S_drew)); exact HO_10.out⟩, ⟨by (with_reducible repeat (first | apply Kd.R_alloc | apply Kd.R_drewN | apply Kd.R_drew)); exact Kd.R_mono HO_12.out (fun _ hk => trivial)⟩, ⟨by (with_reducible repeat (first | apply Kd.R_alloc | apply Kd.R_drewN | apply Kd.R_drew)); exact HO47.out⟩, ⟨by (with_reducible repeat (first | apply Kd.R_alloc | apply Kd.R_drewN | apply Kd.R_drew)); exact HO_14.out⟩, ⟨by (with_reducible repeat (first | apply Kd.R_alloc | apply Kd.R_drewN | apply Kd.R_drew)); exact HO_32000.out⟩, ⟨by (with_reducible repeat (first | apply Kd.R_alloc | apply Kd.R_drewN | apply Kd.R_drew)); exact Kd.R_mono HO_32001.out (fun _ hk => ⟨hk.2, hk.1⟩)⟩, ⟨by (with_reducible repeat (first | apply Kd.R_alloc | apply Kd.R_drewN | apply Kd.R_drew)); exact Kd.R_mono HO_32002.out (fun _ hk => ⟨hk.2, hk.1⟩)⟩, ⟨kM BK11.out⟩, ⟨kM BK31.out⟩, ⟨by repeat ((with_reducible first | exact HB.out ))⟩⟩
                   ·rw [if_neg c49] at H
                    exact absurd H (by simp)
                  ·rw [if_neg c48] at H
                   exact absurd H (by simp)
                 ·rw [if_neg c47] at H
                  exact absurd H (by simp)
               ·rw [if_neg c44] at H
                exact absurd H (by simp)
              ·rw [if_neg c43] at H
               have c43b0 : (((rd_T68 t32 x15_2).f1) == (rd x14_2 ((rd_T68 t32 x15_2).f0))) = false := beq_eq_false_iff_ne.mpr c43
               have c43b1 : (((rd_T68 t32 x15_2).f1) != (rd x14_2 ((rd_T68 t32 x15_2).f0))) = true := bne_iff_ne.mpr c43
               exact absurd (HRT.out.symm.trans (Option.some.inj H).symm) (by decide)
             ·rw [if_neg c42] at H
              exact absurd H (by simp)
            ·rw [if_neg c41] at H
             exact absurd H (by simp)
         ·rw [if_neg c38] at H
          exact absurd H (by simp)
        ·rw [if_neg c37] at H
         have c37b0 : decide (x15_2 < (t32.length : Int)) = false := decide_eq_false c37
         clear c37
         replace H := Option.bind_eq_some_iff.mp H
         obtain ⟨⟨t48, t51, t54, t57⟩, A630, H⟩ := H
         replace H : ((memo_Same.f k2 t16 t19 t22 t48 t51 t54).bind fun t61 => (if t61 = true then (if (t25.length : Int) = (l1.length : Int) then (roadbooklaw20_CallsOrder.j2 k2 l1 t25 t32 x14_2 t57 ((t57.length : Int) != (t32.length : Int))) else (roadbooklaw20_CallsOrder.j2 k2 l1 t25 t32 x14_2 t57 true)) else (roadbooklaw20_CallsOrder.j2 k2 l1 t25 t32 x14_2 t57 true))) = some r := H
         have A63 := Aside0.mk A630
         clear A630
         have HC64 := Aside0.mk H
         clear H
         obtain ⟨Ao65, co65, eo65⟩ := Kd.R_slice HO_12.out
         subst eo65
         have hnb66 := NB11_31.out
         have hnc66 := NB31_11.out
         obtain ⟨hcz67_0, hcz67_1, hcz67_2, hfz67_0, hfz67_1, hfz67_2⟩ := bk3 BK11.out
         obtain ⟨Ao68, co68, eo68⟩ := Kd.R_slice HO_13.out
         subst eo68
         go_upto_region 18 with (first | ((with_reducible refine gate_callee (f := 61) rfl ?_); refine goesL_ (some 118) rfl rfl Try.func61 (by kernel_rfl) rfl #[.agg #[.slice A0_0 l0_0.length c0_0, .slice A0_1 l0_1.length c0_1, .slice A0_2 l0_2.length c0_2], .slice Ao68 x13_2.length co68] rfl (by (try simp only [List.map_toArray, List.map_cons, List.map_nil]); first | rfl ) ?_; (with_reducible refine (calls_All.calls k2 _ _ l0_0 _ _ l0_1 _ _ l0_2 _ _ x13_2 t48 t51 t54 t57 _ ?side1 ?side2 ?side3 ?side4 ?side5 ?side6 ?side7 ?side8 A63.out).mono ?_); (case side1 => exact cM (Kd.C_below HR0_0.out HB.out)); (case side2 => exact HC0_0.out); (case side3 => exact cM (Kd.C_below HR0_1.out HB.out)); (case side4 => exact HC0_1.out); (case side5 => exact cM (Kd.C_below HR0_2.out HB.out)); (case side6 => exact HC0_2.out); (case side7 => exact cM (Kd.R_reads' HO_13.out).2.2); (case side8 => exact (Kd.R_reads' HO_13.out).2.1); rintro e w69 ⟨v49, v52, v55, v58, rfl, ho0, ho1, ho2, ho3, hb⟩; refine ⟨_, rfl, ?_⟩; replace HO_10 := Aside0.mk (Kd.S_elder' (sM HO_10.out) (Kd.R_base ho3) hb); replace HO_12 := Aside0.mk (Kd.R_below (rM HO_12.out) hb); replace HO_13 := Aside0.mk (Kd.R_below (rM HO_13.out) hb); have HO50 := Aside0.mk (Kd.R_lower (Kd.R_new' ho0 (Kd.R_lt (rM HO_32000.out))) (below_size (by exact wM HB.out))); replace HO_32000 := Aside0.mk (Kd.R_elder' (rM HO_32000.out) (Kd.R_base ho0) hb); have HO53 := Aside0.mk (Kd.R_lower (Kd.R_new' (Kd.R_new' (Kd.R_new' ho1 (Kd.R_lt (rM HO_14.out))) (Kd.R_lt (rM HO_32001.out))) (Kd.R_lt (rM HO_32002.out))) (below_size (by exact wM HB.out))); have HO56 := Aside0.mk (Kd.R_lower (Kd.R_new' (Kd.R_new' (Kd.R_new' ho2 (Kd.R_lt (rM HO_14.out))) (Kd.R_lt (rM HO_32001.out))) (Kd.R_lt (rM HO_32002.out))) (below_size (by exact wM HB.out))); replace HO_14 := Aside0.mk (Kd.R_mono (Kd.R_told (Kd.R_told (Kd.R_old (rM HO_14.out) hb) (Kd.R_base ho1)) (Kd.R_base ho2)) (fun _ h_ => h_.1)); replace HO_32001 := Aside0.mk (Kd.R_mono (Kd.R_told (Kd.R_told (Kd.R_old (rM HO_32001.out) hb) (Kd.R_base ho1)) (Kd.R_base ho2)) (fun _ h_ => h_.1)); replace HO_32002 := Aside0.mk (Kd.R_mono (Kd.R_told (Kd.R_told (Kd.R_old (rM HO_32002.out) hb) (Kd.R_base ho1)) (Kd.R_base ho2)) (fun _ h_ => h_.1)); have HO59 := Aside0.mk (Kd.R_lower ho3 (below_size (by exact wM HB.out))); replace BK11 := Aside0.mk (blk_below (kM BK11.out) hb); replace BK31 := Aside0.mk (blk_below (kM BK31.out) hb); replace HB := Aside0.mk (below_step (by exact wM HB.out) hb); (try clear hb); (try clear ho0); (try clear ho1); (try clear ho2); (try clear ho3)) | ((with_reducible refine gate_dst (N := 17) rfl ?_); (try (refine gate_guard (by rfl) ?_; dsimp only)); refine box_event ?hg (N := 17) ?hd (cs := #[.slice none 0 0, .slice none 0 0, .slice none 0 0]) (t := 38) ?hr ?_; (case hd => rfl); (case hg => rfl); (case hr => first | (go_simp; done) ); intro gb60 hg w70 hbox hb; replace HO_10 := Aside0.mk (Kd.S_below (sM HO_10.out) hb); replace HO_12 := Aside0.mk (Kd.R_below (rM HO_12.out) hb); replace HO_13 := Aside0.mk (Kd.R_below (rM HO_13.out) hb); replace HO_14 := Aside0.mk (Kd.R_below (rM HO_14.out) hb); replace HO_32000 := Aside0.mk (Kd.R_below (rM HO_32000.out) hb); replace HO_32001 := Aside0.mk (Kd.R_below (rM HO_32001.out) hb); replace HO_32002 := Aside0.mk (Kd.R_below (rM HO_32002.out) hb); replace HO50 := Aside0.mk (Kd.R_below (rM HO50.out) hb); replace HO53 := Aside0.mk (Kd.R_below (rM HO53.out) hb); replace HO56 := Aside0.mk (Kd.R_below (rM HO56.out) hb); replace HO59 := Aside0.mk (Kd.R_below (rM HO59.out) hb); have BK60 := Aside0.mk (hbox); have GW60 := Aside0.mk ((by rw [hg]; exact (below_size (by exact wM HB.out)) : w.heap.size ≤ gb60)); have GE60 := Aside0.mk ((by rw [hg]; exact (below_size (by exact wM HB.out)) : w.heap.size ≤ gb60)); replace HB := Aside0.mk (below_step (by exact wM HB.out) hb); have NB11_60 := Aside0.mk ((by rw [hg]; exact Nat.ne_of_lt (blk_lt (kM BK11.out)) : gb11 ≠ gb60)); have NB60_11 := Aside0.mk ((by rw [hg]; exact Nat.ne_of_gt (blk_lt (kM BK11.out)) : gb60 ≠ gb11)); replace BK11 := Aside0.mk (blk_below (kM BK11.out) hb); have NB31_60 := Aside0.mk ((by rw [hg]; exact Nat.ne_of_lt (blk_lt (kM BK31.out)) : gb31 ≠ gb60)); have NB60_31 := Aside0.mk ((by rw [hg]; exact Nat.ne_of_gt (blk_lt (kM BK31.out)) : gb60 ≠ gb31)); replace BK31 := Aside0.mk (blk_below (kM BK31.out) hb); clear hb hbox hg; obtain ⟨Ao71, co71, eo71⟩ := Kd.R_slice HO50.out; subst eo71; have hnb72 := NB60_11.out; have hnc72 := NB11_60.out; have hnb73 := NB60_31.out; have hnc73 := NB31_60.out; obtain ⟨hcz74_0, hcz74_1, hcz74_2, hfz74_0, hfz74_1, hfz74_2⟩ := bk3 BK60.out; obtain ⟨Ao75, co75, eo75⟩ := Kd.R_slice HO53.out; subst eo75; obtain ⟨Ao76, co76, eo76⟩ := Kd.R_slice HO56.out; subst eo76))
         (try simp only [Act.put, List.setIfInBounds_toArray, List.set_cons_zero, List.set_cons_succ])
         go_cut [138] (fun v138 wc => ∃ (kq : Nat) (x138_63 : Bool), v138 = .bool x138_63 ∧ Aside0 (roadbooklaw20_CallsOrder.j2 kq l1 t25 t32 x14_2 t57 x138_63 = some r) ∧ Aside0 (kq ≤ k2) ∧ Aside0 (Kd.S (Kd.slice 73 k73) 71 wc w.heap.size (fun k_ => some k_ ≠ (v58 : Value).ownBlock) v26 t25) ∧ Aside0 (Kd.R k68 68 wc w.heap.size (fun _ => True) (.slice Ao65 t32.length co65) t32) ∧ Aside0 (Kd.R (Kd.int .i64) 3 wc w.heap.size (fun k_ => some k_ ≠ ((.slice Ao31 t19.length co31) : Value).ownBlock ∧ some k_ ≠ ((.slice Ao32 t22.length co32) : Value).ownBlock ∧ some k_ ≠ ((.slice Ao75 t51.length co75) : Value).ownBlock ∧ some k_ ≠ ((.slice Ao76 t54.length co76) : Value).ownBlock) v36 x14_2) ∧ Aside0 (Kd.R k73 73 wc w.heap.size (fun _ => True) v58 t57) ∧ Aside0 (Kd.R k48 48 wc w.heap.size (fun k_ => some k_ ≠ ((.slice Ao71 t48.length co71) : Value).ownBlock) (.slice Ao28 t16.length co28) t16) ∧ Aside0 (Kd.R (Kd.int .i64) 3 wc w.heap.size (fun k_ => some k_ ≠ (v36 : Value).ownBlock ∧ some k_ ≠ ((.slice Ao32 t22.length co32) : Value).ownBlock ∧ some k_ ≠ ((.slice Ao75 t51.length co75) : Value).ownBlock ∧ some k_ ≠ ((.slice Ao76 t54.length co76) : Value).ownBlock) (.slice Ao31 t19.length co31) t19) ∧ Aside0 (Kd.R (Kd.int .i64) 3 wc w.heap.size (fun k_ => some k_ ≠ (v36 : Value).ownBlock ∧ some k_ ≠ ((.slice Ao31 t19.length co31) : Value).ownBlock ∧ some k_ ≠ ((.slice Ao75 t51.length co75) : Value).ownBlock ∧ some k_ ≠ ((.slice Ao76 t54.length co76) : Value).ownBlock) (.slice Ao32 t22.length co32) t22) ∧ Aside0 (Kd.R k48 48 wc w.heap.size (fun k_ => some k_ ≠ ((.slice Ao28 t16.length co28) : Value).ownBlock) (.slice Ao71 t48.length co71) t48) ∧ Aside0 (Kd.R (Kd.int .i64) 3 wc w.heap.size (fun k_ => some k_ ≠ (v36 : Value).ownBlock ∧ some k_ ≠ ((.slice Ao31 t19.length co31) : Value).ownBlock ∧ some k_ ≠ ((.slice Ao32 t22.length co32) : Value).ownBlock ∧ some k_ ≠ ((.slice Ao76 t54.length co76) : Value).ownBlock) (.slice Ao75 t51.length co75) t51) ∧ Aside0 (Kd.R (Kd.int .i64) 3 wc w.heap.size (fun k_ => some k_ ≠ (v36 : Value).ownBlock ∧ some k_ ≠ ((.slice Ao31 t19.length co31) : Value).ownBlock ∧ some k_ ≠ ((.slice Ao32 t22.length co32) : Value).ownBlock ∧ some k_ ≠ ((.slice Ao75 t51.length co75) : Value).ownBlock) (.slice Ao76 t54.length co76) t54) ∧ Aside0 (wc.heap[gb11]? = some (.cells #[(.slice A0_0 l0_0.length c0_0), (.slice A0_1 l0_1.length c0_1), (.slice A0_2 l0_2.length c0_2)] 38 (0, 0))) ∧ Aside0 (wc.heap[gb31]? = some (.cells #[(.slice Ao28 t16.length co28), (.slice Ao31 t19.length co31), (.slice Ao32 t22.length co32)] 38 (0, 0))) ∧ Aside0 (wc.heap[gb60]? = some (.cells #[(.slice Ao71 t48.length co71), (.slice Ao75 t51.length co75), (.slice Ao76 t54.length co76)] 38 (0, 0))) ∧ Aside0 (Below w.heap.size w wc))
         case first =>
          have H := HC64.out
          clear HC64
          replace H := Option.bind_eq_some_iff.mp H
          obtain ⟨t61, A770, H⟩ := H
          have A77 := Aside0.mk A770
          clear A770
          by_cases c78 : t61 = true
          ·subst c78
           rw [if_pos rfl] at H
           by_cases c79 : (t25.length : Int) = (l1.length : Int)
           ·rw [if_pos c79] at H
            have c79b0 : ((t25.length : Int) == (l1.length : Int)) = true := beq_iff_eq.mpr c79
            have c79b1 : ((t25.length : Int) != (l1.length : Int)) = false := bne_eq_false_iff_eq.mpr c79
            have c79b2 : (t25.length == l1.length) = true := by (simp at c79 ⊢; omega)
            clear c79
            (skip)
            have H' := Aside0.mk H
            clear H
            have hnb80 := NB31_11.out
            have hnc80 := NB11_31.out
            have hnb81 := NB31_60.out
            have hnc81 := NB60_31.out
            obtain ⟨hcz82_0, hcz82_1, hcz82_2, hfz82_0, hfz82_1, hfz82_2⟩ := bk3 BK31.out
            have hnb83 := NB60_11.out
            have hnc83 := NB11_60.out
            obtain ⟨hcz84_0, hcz84_1, hcz84_2, hfz84_0, hfz84_1, hfz84_2⟩ := bk3 BK60.out
            go_wp2_with (((with_reducible refine gate_callee (f := 46) rfl ?_); refine goesL_ (some 123) rfl rfl Try.func46 (by kernel_rfl) rfl #[.agg #[.slice Ao28 t16.length co28, .slice Ao31 t19.length co31, .slice Ao32 t22.length co32], .agg #[.slice Ao71 t48.length co71, .slice Ao75 t51.length co75, .slice Ao76 t54.length co76]] rfl (by (try simp only [List.map_toArray, List.map_cons, List.map_nil]); first | rfl ) ?_; (with_reducible refine (memo_Same.calls k2 _ _ t16 _ _ t19 _ _ t22 _ _ t48 _ _ t51 _ _ t54 true _ ?side1 ?side2 ?side3 ?side4 ?side5 ?side6 ?side7 ?side8 ?side9 ?side10 ?side11 ?side12 A77.out).mono ?_); (case side1 => exact rCF HO_32000.out BK60.out (by decide)); (case side2 => exact (Kd.R_reads' HO_32000.out).2.1); (case side3 => exact rCF HO_32001.out BK60.out (by decide)); (case side4 => exact (Kd.R_reads' HO_32001.out).2.1); (case side5 => exact rCF HO_32002.out BK60.out (by decide)); (case side6 => exact (Kd.R_reads' HO_32002.out).2.1); (case side7 => exact rCF HO50.out BK60.out (by decide)); (case side8 => exact (Kd.R_reads' HO50.out).2.1); (case side9 => exact rCF HO53.out BK60.out (by decide)); (case side10 => exact (Kd.R_reads' HO53.out).2.1); (case side11 => exact rCF HO56.out BK60.out (by decide)); (case side12 => exact (Kd.R_reads' HO56.out).2.1); rintro e w85 ⟨rfl, hb⟩; refine ⟨_, rfl, ?_⟩; replace HO_10 := Aside0.mk (Kd.S_below (sF HO_10.out BK60.out (by decide)) hb); replace HO_12 := Aside0.mk (Kd.R_below (rF HO_12.out BK60.out (by decide)) hb); replace HO_13 := Aside0.mk (Kd.R_below (rF HO_13.out BK60.out (by decide)) hb); replace HO_14 := Aside0.mk (Kd.R_below (rF HO_14.out BK60.out (by decide)) hb); replace HO_32000 := Aside0.mk (Kd.R_below (rF HO_32000.out BK60.out (by decide)) hb); replace HO_32001 := Aside0.mk (Kd.R_below (rF HO_32001.out BK60.out (by decide)) hb); replace HO_32002 := Aside0.mk (Kd.R_below (rF HO_32002.out BK60.out (by decide)) hb); replace HO50 := Aside0.mk (Kd.R_below (rF HO50.out BK60.out (by decide)) hb); replace HO53 := Aside0.mk (Kd.R_below (rF HO53.out BK60.out (by decide)) hb); replace HO56 := Aside0.mk (Kd.R_below (rF HO56.out BK60.out (by decide)) hb); replace HO59 := Aside0.mk (Kd.R_below (rF HO59.out BK60.out (by decide)) hb); replace BK11 := Aside0.mk (blk_below (kF BK11.out NB11_60.out) hb); replace BK31 := Aside0.mk (blk_below (kF BK31.out NB31_60.out) hb); replace BK60 := Aside0.mk (blk_below (g := gb60) (o := .cells #[.slice Ao71 t48.length co71, .slice Ao75 t51.length co75, .slice Ao76 t54.length co76] 38 (0, 0)) (by (with_reducible repeat (first | refine blk_drewN ?_ _ | refine blk_drew ?_ | refine blk_alloc ?_ _)); exact kP1 BK60.out) hb); replace HB := Aside0.mk (below_step (by exact wF HB.out GE60.out) hb); (try clear hb); obtain ⟨Ao86, co86, eo86⟩ := Kd.S_slice HO_10.out; subst eo86; obtain ⟨Ao87, co87, eo87⟩ := Kd.R_slice HO59.out; subst eo87))
            go_meet
            case rel => exact ⟨_, (((t57.length : Int) != (t32.length : Int))), (by rfl), H', ⟨by have := HJ5.out; have := HK2.out; first | omega ⟩, ⟨by (with_reducible repeat (first | apply Kd.S_alloc | apply Kd.S_drewN | apply Kd.S_drew)); exact Kd.S_mono HO_10.out (fun _ hk => hk.2)⟩, ⟨by (with_reducible repeat (first | apply Kd.R_alloc | apply Kd.R_drewN | apply Kd.R_drew)); exact HO_12.out⟩, ⟨by (with_reducible repeat (first | apply Kd.R_alloc | apply Kd.R_drewN | apply Kd.R_drew)); exact Kd.R_mono HO_14.out (fun _ hk => ⟨hk.1.1.1, ⟨hk.1.1.2, ⟨hk.1.2, hk.2⟩⟩⟩)⟩, ⟨by (with_reducible repeat (first | apply Kd.R_alloc | apply Kd.R_drewN | apply Kd.R_drew)); exact HO59.out⟩, ⟨by (with_reducible repeat (first | apply Kd.R_alloc | apply Kd.R_drewN | apply Kd.R_drew)); exact Kd.R_mono HO_32000.out (fun _ hk => hk.2)⟩, ⟨by (with_reducible repeat (first | apply Kd.R_alloc | apply Kd.R_drewN | apply Kd.R_drew)); exact Kd.R_mono HO_32001.out (fun _ hk => ⟨hk.1.1.1, ⟨hk.1.1.2, ⟨hk.1.2, hk.2⟩⟩⟩)⟩, ⟨by (with_reducible repeat (first | apply Kd.R_alloc | apply Kd.R_drewN | apply Kd.R_drew)); exact Kd.R_mono HO_32002.out (fun _ hk => ⟨hk.1.1.1, ⟨hk.1.1.2, ⟨hk.1.2, hk.2⟩⟩⟩)⟩, ⟨by (with_reducible repeat (first | apply Kd.R_alloc | apply Kd.R_drewN | apply Kd.R_drew)); exact Kd.R_mono HO50.out (fun _ hk => hk.2)⟩, ⟨by (with_reducible repeat (first | apply Kd.R_alloc | apply Kd.R_drewN | apply Kd.R_drew)); exact Kd.R_mono HO53.out (fun _ hk => ⟨hk.1.1.2, ⟨hk.1.2, ⟨hk.2, hk.1.1.1⟩⟩⟩)⟩, ⟨by (with_reducible repeat (first | apply Kd.R_alloc | apply Kd.R_drewN | apply Kd.R_drew)); exact Kd.R_mono HO56.out (fun _ hk => ⟨hk.1.1.2, ⟨hk.1.2, ⟨hk.2, hk.1.1.1⟩⟩⟩)⟩, ⟨kM BK11.out⟩, ⟨kM BK31.out⟩, ⟨kM BK60.out⟩, ⟨by repeat ((with_reducible first | exact HB.out ))⟩⟩
           ·rw [if_neg c79] at H
            have c79b0 : ((t25.length : Int) == (l1.length : Int)) = false := beq_eq_false_iff_ne.mpr c79
            have c79b1 : ((t25.length : Int) != (l1.length : Int)) = true := bne_iff_ne.mpr c79
            have c79b2 : (t25.length == l1.length) = false := by (simp at c79 ⊢; omega)
            (skip)
            have H' := Aside0.mk H
            clear H
            have hnb88 := NB31_11.out
            have hnc88 := NB11_31.out
            have hnb89 := NB31_60.out
            have hnc89 := NB60_31.out
            obtain ⟨hcz90_0, hcz90_1, hcz90_2, hfz90_0, hfz90_1, hfz90_2⟩ := bk3 BK31.out
            have hnb91 := NB60_11.out
            have hnc91 := NB11_60.out
            obtain ⟨hcz92_0, hcz92_1, hcz92_2, hfz92_0, hfz92_1, hfz92_2⟩ := bk3 BK60.out
            go_wp2_with (((with_reducible refine gate_callee (f := 46) rfl ?_); refine goesL_ (some 123) rfl rfl Try.func46 (by kernel_rfl) rfl #[.agg #[.slice Ao28 t16.length co28, .slice Ao31 t19.length co31, .slice Ao32 t22.length co32], .agg #[.slice Ao71 t48.length co71, .slice Ao75 t51.length co75, .slice Ao76 t54.length co76]] rfl (by (try simp only [List.map_toArray, List.map_cons, List.map_nil]); first | rfl ) ?_; (with_reducible refine (memo_Same.calls k2 _ _ t16 _ _ t19 _ _ t22 _ _ t48 _ _ t51 _ _ t54 true _ ?side1 ?side2 ?side3 ?side4 ?side5 ?side6 ?side7 ?side8 ?side9 ?side10 ?side11 ?side12 A77.out).mono ?_); (case side1 => exact rCF HO_32000.out BK60.out (by decide)); (case side2 => exact (Kd.R_reads' HO_32000.out).2.1); (case side3 => exact rCF HO_32001.out BK60.out (by decide)); (case side4 => exact (Kd.R_reads' HO_32001.out).2.1); (case side5 => exact rCF HO_32002.out BK60.out (by decide)); (case side6 => exact (Kd.R_reads' HO_32002.out).2.1); (case side7 => exact rCF HO50.out BK60.out (by decide)); (case side8 => exact (Kd.R_reads' HO50.out).2.1); (case side9 => exact rCF HO53.out BK60.out (by decide)); (case side10 => exact (Kd.R_reads' HO53.out).2.1); (case side11 => exact rCF HO56.out BK60.out (by decide)); (case side12 => exact (Kd.R_reads' HO56.out).2.1); rintro e w93 ⟨rfl, hb⟩; refine ⟨_, rfl, ?_⟩; replace HO_10 := Aside0.mk (Kd.S_below (sF HO_10.out BK60.out (by decide)) hb); replace HO_12 := Aside0.mk (Kd.R_below (rF HO_12.out BK60.out (by decide)) hb); replace HO_13 := Aside0.mk (Kd.R_below (rF HO_13.out BK60.out (by decide)) hb); replace HO_14 := Aside0.mk (Kd.R_below (rF HO_14.out BK60.out (by decide)) hb); replace HO_32000 := Aside0.mk (Kd.R_below (rF HO_32000.out BK60.out (by decide)) hb); replace HO_32001 := Aside0.mk (Kd.R_below (rF HO_32001.out BK60.out (by decide)) hb); replace HO_32002 := Aside0.mk (Kd.R_below (rF HO_32002.out BK60.out (by decide)) hb); replace HO50 := Aside0.mk (Kd.R_below (rF HO50.out BK60.out (by decide)) hb); replace HO53 := Aside0.mk (Kd.R_below (rF HO53.out BK60.out (by decide)) hb); replace HO56 := Aside0.mk (Kd.R_below (rF HO56.out BK60.out (by decide)) hb); replace HO59 := Aside0.mk (Kd.R_below (rF HO59.out BK60.out (by decide)) hb); replace BK11 := Aside0.mk (blk_below (kF BK11.out NB11_60.out) hb); replace BK31 := Aside0.mk (blk_below (kF BK31.out NB31_60.out) hb); replace BK60 := Aside0.mk (blk_below (g := gb60) (o := .cells #[.slice Ao71 t48.length co71, .slice Ao75 t51.length co75, .slice Ao76 t54.length co76] 38 (0, 0)) (by (with_reducible repeat (first | refine blk_drewN ?_ _ | refine blk_drew ?_ | refine blk_alloc ?_ _)); exact kP1 BK60.out) hb); replace HB := Aside0.mk (below_step (by exact wF HB.out GE60.out) hb); (try clear hb); obtain ⟨Ao94, co94, eo94⟩ := Kd.S_slice HO_10.out; subst eo94))
            go_meet
            case rel => exact ⟨_, (true), (by rfl), H', ⟨by have := HJ5.out; have := HK2.out; first | omega ⟩, ⟨by (with_reducible repeat (first | apply Kd.S_alloc | apply Kd.S_drewN | apply Kd.S_drew)); exact Kd.S_mono HO_10.out (fun _ hk => hk.2)⟩, ⟨by (with_reducible repeat (first | apply Kd.R_alloc | apply Kd.R_drewN | apply Kd.R_drew)); exact HO_12.out⟩, ⟨by (with_reducible repeat (first | apply Kd.R_alloc | apply Kd.R_drewN | apply Kd.R_drew)); exact Kd.R_mono HO_14.out (fun _ hk => ⟨hk.1.1.1, ⟨hk.1.1.2, ⟨hk.1.2, hk.2⟩⟩⟩)⟩, ⟨by (with_reducible repeat (first | apply Kd.R_alloc | apply Kd.R_drewN | apply Kd.R_drew)); exact HO59.out⟩, ⟨by (with_reducible repeat (first | apply Kd.R_alloc | apply Kd.R_drewN | apply Kd.R_drew)); exact Kd.R_mono HO_32000.out (fun _ hk => hk.2)⟩, ⟨by (with_reducible repeat (first | apply Kd.R_alloc | apply Kd.R_drewN | apply Kd.R_drew)); exact Kd.R_mono HO_32001.out (fun _ hk => ⟨hk.1.1.1, ⟨hk.1.1.2, ⟨hk.1.2, hk.2⟩⟩⟩)⟩, ⟨by (with_reducible repeat (first | apply Kd.R_alloc | apply Kd.R_drewN | apply Kd.R_drew)); exact Kd.R_mono HO_32002.out (fun _ hk => ⟨hk.1.1.1, ⟨hk.1.1.2, ⟨hk.1.2, hk.2⟩⟩⟩)⟩, ⟨by (with_reducible repeat (first | apply Kd.R_alloc | apply Kd.R_drewN | apply Kd.R_drew)); exact Kd.R_mono HO50.out (fun _ hk => hk.2)⟩, ⟨by (with_reducible repeat (first | apply Kd.R_alloc | apply Kd.R_drewN | apply Kd.R_drew)); exact Kd.R_mono HO53.out (fun _ hk => ⟨hk.1.1.2, ⟨hk.1.2, ⟨hk.2, hk.1.1.1⟩⟩⟩)⟩, ⟨by (with_reducible repeat (first | apply Kd.R_alloc | apply Kd.R_drewN | apply Kd.R_drew)); exact Kd.R_mono HO56.out (fun _ hk => ⟨hk.1.1.2, ⟨hk.1.2, ⟨hk.2, hk.1.1.1⟩⟩⟩)⟩, ⟨kM BK11.out⟩, ⟨kM BK31.out⟩, ⟨kM BK60.out⟩, ⟨by repeat ((with_reducible first | exact HB.out ))⟩⟩
          ·replace c78 := Bool.eq_false_iff.mpr c78
           subst c78
           rw [if_neg (show ¬ (false = true) by decide)] at H
           have H' := Aside0.mk H
           clear H
           have hnb95 := NB31_11.out
           have hnc95 := NB11_31.out
           have hnb96 := NB31_60.out
           have hnc96 := NB60_31.out
           obtain ⟨hcz97_0, hcz97_1, hcz97_2, hfz97_0, hfz97_1, hfz97_2⟩ := bk3 BK31.out
           have hnb98 := NB60_11.out
           have hnc98 := NB11_60.out
           obtain ⟨hcz99_0, hcz99_1, hcz99_2, hfz99_0, hfz99_1, hfz99_2⟩ := bk3 BK60.out
           go_wp2_with (((with_reducible refine gate_callee (f := 46) rfl ?_); refine goesL_ (some 123) rfl rfl Try.func46 (by kernel_rfl) rfl #[.agg #[.slice Ao28 t16.length co28, .slice Ao31 t19.length co31, .slice Ao32 t22.length co32], .agg #[.slice Ao71 t48.length co71, .slice Ao75 t51.length co75, .slice Ao76 t54.length co76]] rfl (by (try simp only [List.map_toArray, List.map_cons, List.map_nil]); first | rfl ) ?_; (with_reducible refine (memo_Same.calls k2 _ _ t16 _ _ t19 _ _ t22 _ _ t48 _ _ t51 _ _ t54 false _ ?side1 ?side2 ?side3 ?side4 ?side5 ?side6 ?side7 ?side8 ?side9 ?side10 ?side11 ?side12 A77.out).mono ?_); (case side1 => exact rCF HO_32000.out BK60.out (by decide)); (case side2 => exact (Kd.R_reads' HO_32000.out).2.1); (case side3 => exact rCF HO_32001.out BK60.out (by decide)); (case side4 => exact (Kd.R_reads' HO_32001.out).2.1); (case side5 => exact rCF HO_32002.out BK60.out (by decide)); (case side6 => exact (Kd.R_reads' HO_32002.out).2.1); (case side7 => exact rCF HO50.out BK60.out (by decide)); (case side8 => exact (Kd.R_reads' HO50.out).2.1); (case side9 => exact rCF HO53.out BK60.out (by decide)); (case side10 => exact (Kd.R_reads' HO53.out).2.1); (case side11 => exact rCF HO56.out BK60.out (by decide)); (case side12 => exact (Kd.R_reads' HO56.out).2.1); rintro e w100 ⟨rfl, hb⟩; refine ⟨_, rfl, ?_⟩; replace HO_10 := Aside0.mk (Kd.S_below (sF HO_10.out BK60.out (by decide)) hb); replace HO_12 := Aside0.mk (Kd.R_below (rF HO_12.out BK60.out (by decide)) hb); replace HO_13 := Aside0.mk (Kd.R_below (rF HO_13.out BK60.out (by decide)) hb); replace HO_14 := Aside0.mk (Kd.R_below (rF HO_14.out BK60.out (by decide)) hb); replace HO_32000 := Aside0.mk (Kd.R_below (rF HO_32000.out BK60.out (by decide)) hb); replace HO_32001 := Aside0.mk (Kd.R_below (rF HO_32001.out BK60.out (by decide)) hb); replace HO_32002 := Aside0.mk (Kd.R_below (rF HO_32002.out BK60.out (by decide)) hb); replace HO50 := Aside0.mk (Kd.R_below (rF HO50.out BK60.out (by decide)) hb); replace HO53 := Aside0.mk (Kd.R_below (rF HO53.out BK60.out (by decide)) hb); replace HO56 := Aside0.mk (Kd.R_below (rF HO56.out BK60.out (by decide)) hb); replace HO59 := Aside0.mk (Kd.R_below (rF HO59.out BK60.out (by decide)) hb); replace BK11 := Aside0.mk (blk_below (kF BK11.out NB11_60.out) hb); replace BK31 := Aside0.mk (blk_below (kF BK31.out NB31_60.out) hb); replace BK60 := Aside0.mk (blk_below (g := gb60) (o := .cells #[.slice Ao71 t48.length co71, .slice Ao75 t51.length co75, .slice Ao76 t54.length co76] 38 (0, 0)) (by (with_reducible repeat (first | refine blk_drewN ?_ _ | refine blk_drew ?_ | refine blk_alloc ?_ _)); exact kP1 BK60.out) hb); replace HB := Aside0.mk (below_step (by exact wF HB.out GE60.out) hb); (try clear hb); ))
           go_meet
           case rel => exact ⟨_, (true), (by rfl), H', ⟨by have := HJ5.out; have := HK2.out; first | omega ⟩, ⟨by (with_reducible repeat (first | apply Kd.S_alloc | apply Kd.S_drewN | apply Kd.S_drew)); exact Kd.S_mono HO_10.out (fun _ hk => hk.2)⟩, ⟨by (with_reducible repeat (first | apply Kd.R_alloc | apply Kd.R_drewN | apply Kd.R_drew)); exact HO_12.out⟩, ⟨by (with_reducible repeat (first | apply Kd.R_alloc | apply Kd.R_drewN | apply Kd.R_drew)); exact Kd.R_mono HO_14.out (fun _ hk => ⟨hk.1.1.1, ⟨hk.1.1.2, ⟨hk.1.2, hk.2⟩⟩⟩)⟩, ⟨by (with_reducible repeat (first | apply Kd.R_alloc | apply Kd.R_drewN | apply Kd.R_drew)); exact HO59.out⟩, ⟨by (with_reducible repeat (first | apply Kd.R_alloc | apply Kd.R_drewN | apply Kd.R_drew)); exact Kd.R_mono HO_32000.out (fun _ hk => hk.2)⟩, ⟨by (with_reducible repeat (first | apply Kd.R_alloc | apply Kd.R_drewN | apply Kd.R_drew)); exact Kd.R_mono HO_32001.out (fun _ hk => ⟨hk.1.1.1, ⟨hk.1.1.2, ⟨hk.1.2, hk.2⟩⟩⟩)⟩, ⟨by (with_reducible repeat (first | apply Kd.R_alloc | apply Kd.R_drewN | apply Kd.R_drew)); exact Kd.R_mono HO_32002.out (fun _ hk => ⟨hk.1.1.1, ⟨hk.1.1.2, ⟨hk.1.2, hk.2⟩⟩⟩)⟩, ⟨by (with_reducible repeat (first | apply Kd.R_alloc | apply Kd.R_drewN | apply Kd.R_drew)); exact Kd.R_mono HO50.out (fun _ hk => hk.2)⟩, ⟨by (with_reducible repeat (first | apply Kd.R_alloc | apply Kd.R_drewN | apply Kd.R_drew)); exact Kd.R_mono HO53.out (fun _ hk => ⟨hk.1.1.2, ⟨hk.1.2, ⟨hk.2, hk.1.1.1⟩⟩⟩)⟩, ⟨by (with_reducible repeat (first | apply Kd.R_alloc | apply Kd.R_drewN | apply Kd.R_drew)); exact Kd.R_mono HO56.out (fun _ hk => ⟨hk.1.1.2, ⟨hk.1.2, ⟨hk.2, hk.1.1.1⟩⟩⟩)⟩, ⟨kM BK11.out⟩, ⟨kM BK31.out⟩, ⟨kM BK60.out⟩, ⟨by repeat ((with_reducible first | exact HB.out ))⟩⟩
         case rest =>
          clear HC64
          try clear c37b0
          try clear hcz67_0
          try clear hcz67_1
          try clear hcz67_2
          try clear hcz74_0
          try clear hcz74_1
          try clear hcz74_2
          try clear hfz67_0
          try clear hfz67_1
          try clear hfz67_2
          try clear hfz74_0
          try clear hfz74_1
          try clear hfz74_2
          obtain ⟨kq, x138_63, rfl, HA, HJ63, HO_10, HO_12, HO_14, HO_18, HO_32000, HO_32001, HO_32002, HO_61000, HO_61001, HO_61002, BK11, BK31, BK60, HB⟩ := hcut
          cases kq with
          | zero => exact absurd HA.out (by simp [roadbooklaw20_CallsOrder.j2])
          | succ kj63 =>
           have H := HA.out
           clear HA
           simp only [roadbooklaw20_CallsOrder.j2] at H
           by_cases c101 : x138_63 = true
           ·subst c101
            rw [if_pos rfl] at H
            exact absurd (HRT.out.symm.trans (Option.some.inj H).symm) (by decide)
           ·replace c101 := Bool.eq_false_iff.mpr c101
            subst c101
            rw [if_neg (show ¬ (false = true) by decide)] at H
            have H' := Aside0.mk H
            clear H
            go_wp2
            go_loopg [19] kj63 (fun kq v19 w' => ∃ (x19_4 : Int), v19 = .int .i64 x19_4 ∧ Aside0 (roadbooklaw20_CallsOrder.l1 kq l1 t25 t32 x14_2 t57 x19_4 = some r) ∧ Aside0 (kq ≤ kj63) ∧ Aside0 (Kd.S (Kd.slice 73 k73) 71 w' w.heap.size (fun k_ => some k_ ≠ (v58 : Value).ownBlock) v26 t25) ∧ Aside0 (Kd.R k68 68 w' w.heap.size (fun _ => True) (.slice Ao65 t32.length co65) t32) ∧ Aside0 (Kd.R (Kd.int .i64) 3 w' w.heap.size (fun k_ => some k_ ≠ ((.slice Ao31 t19.length co31) : Value).ownBlock ∧ some k_ ≠ ((.slice Ao32 t22.length co32) : Value).ownBlock ∧ some k_ ≠ ((.slice Ao75 t51.length co75) : Value).ownBlock ∧ some k_ ≠ ((.slice Ao76 t54.length co76) : Value).ownBlock) v36 x14_2) ∧ Aside0 (Kd.R k73 73 w' w.heap.size (fun _ => True) v58 t57) ∧ Aside0 (Kd.R k48 48 w' w.heap.size (fun k_ => some k_ ≠ ((.slice Ao71 t48.length co71) : Value).ownBlock) (.slice Ao28 t16.length co28) t16) ∧ Aside0 (Kd.R (Kd.int .i64) 3 w' w.heap.size (fun k_ => some k_ ≠ (v36 : Value).ownBlock ∧ some k_ ≠ ((.slice Ao32 t22.length co32) : Value).ownBlock ∧ some k_ ≠ ((.slice Ao75 t51.length co75) : Value).ownBlock ∧ some k_ ≠ ((.slice Ao76 t54.length co76) : Value).ownBlock) (.slice Ao31 t19.length co31) t19) ∧ Aside0 (Kd.R (Kd.int .i64) 3 w' w.heap.size (fun k_ => some k_ ≠ (v36 : Value).ownBlock ∧ some k_ ≠ ((.slice Ao31 t19.length co31) : Value).ownBlock ∧ some k_ ≠ ((.slice Ao75 t51.length co75) : Value).ownBlock ∧ some k_ ≠ ((.slice Ao76 t54.length co76) : Value).ownBlock) (.slice Ao32 t22.length co32) t22) ∧ Aside0 (Kd.R k48 48 w' w.heap.size (fun k_ => some k_ ≠ ((.slice Ao28 t16.length co28) : Value).ownBlock) (.slice Ao71 t48.length co71) t48) ∧ Aside0 (Kd.R (Kd.int .i64) 3 w' w.heap.size (fun k_ => some k_ ≠ (v36 : Value).ownBlock ∧ some k_ ≠ ((.slice Ao31 t19.length co31) : Value).ownBlock ∧ some k_ ≠ ((.slice Ao32 t22.length co32) : Value).ownBlock ∧ some k_ ≠ ((.slice Ao76 t54.length co76) : Value).ownBlock) (.slice Ao75 t51.length co75) t51) ∧ Aside0 (Kd.R (Kd.int .i64) 3 w' w.heap.size (fun k_ => some k_ ≠ (v36 : Value).ownBlock ∧ some k_ ≠ ((.slice Ao31 t19.length co31) : Value).ownBlock ∧ some k_ ≠ ((.slice Ao32 t22.length co32) : Value).ownBlock ∧ some k_ ≠ ((.slice Ao75 t51.length co75) : Value).ownBlock) (.slice Ao76 t54.length co76) t54) ∧ Aside0 (w'.heap[gb11]? = some (.cells #[(.slice A0_0 l0_0.length c0_0), (.slice A0_1 l0_1.length c0_1), (.slice A0_2 l0_2.length c0_2)] 38 (0, 0))) ∧ Aside0 (w'.heap[gb31]? = some (.cells #[(.slice Ao28 t16.length co28), (.slice Ao31 t19.length co31), (.slice Ao32 t22.length co32)] 38 (0, 0))) ∧ Aside0 (w'.heap[gb60]? = some (.cells #[(.slice Ao71 t48.length co71), (.slice Ao75 t51.length co75), (.slice Ao76 t54.length co76)] 38 (0, 0))) ∧ Aside0 (Below w.heap.size w w'))
            case atStart => exact ⟨(0), (by rfl), H', ⟨Nat.le_refl _⟩, ⟨by (with_reducible repeat (first | apply Kd.S_alloc | apply Kd.S_drewN | apply Kd.S_drew)); exact HO_10.out⟩, ⟨by (with_reducible repeat (first | apply Kd.R_alloc | apply Kd.R_drewN | apply Kd.R_drew)); exact HO_12.out⟩, ⟨by (with_reducible repeat (first | apply Kd.R_alloc | apply Kd.R_drewN | apply Kd.R_drew)); exact HO_14.out⟩, ⟨by (with_reducible repeat (first | apply Kd.R_alloc | apply Kd.R_drewN | apply Kd.R_drew)); exact HO_18.out⟩, ⟨by (with_reducible repeat (first | apply Kd.R_alloc | apply Kd.R_drewN | apply Kd.R_drew)); exact HO_32000.out⟩, ⟨by (with_reducible repeat (first | apply Kd.R_alloc | apply Kd.R_drewN | apply Kd.R_drew)); exact HO_32001.out⟩, ⟨by (with_reducible repeat (first | apply Kd.R_alloc | apply Kd.R_drewN | apply Kd.R_drew)); exact HO_32002.out⟩, ⟨by (with_reducible repeat (first | apply Kd.R_alloc | apply Kd.R_drewN | apply Kd.R_drew)); exact HO_61000.out⟩, ⟨by (with_reducible repeat (first | apply Kd.R_alloc | apply Kd.R_drewN | apply Kd.R_drew)); exact HO_61001.out⟩, ⟨by (with_reducible repeat (first | apply Kd.R_alloc | apply Kd.R_drewN | apply Kd.R_drew)); exact HO_61002.out⟩, ⟨kM BK11.out⟩, ⟨kM BK31.out⟩, ⟨kM BK60.out⟩, ⟨by repeat ((with_reducible first | exact HB.out ))⟩⟩
            case round =>
             clear H'
             obtain ⟨x19_4, rfl, HA, HK4, HO_10, HO_12, HO_14, HO_18, HO_32000, HO_32001, HO_32002, HO_61000, HO_61001, HO_61002, BK11, BK31, BK60, HB⟩ := hrel
             cases gk with
             | zero => exact absurd HA.out (by simp [roadbooklaw20_CallsOrder.l1])
             | succ k4 =>
              have H := HA.out
              clear HA
              simp only [roadbooklaw20_CallsOrder.l1] at H
              by_cases c102 : x19_4 < (l1.length : Int)
              ·rw [if_pos c102] at H
               have c102b0 : decide (x19_4 < (l1.length : Int)) = true := decide_eq_true c102
               clear c102
               by_cases c103 : 0 ≤ x19_4
               ·rw [if_pos c103] at H
                have c103b0 : decide (0 ≤ x19_4) = true := decide_eq_true c103
                clear c103
                by_cases c104 : x19_4 < (x14_2.length : Int)
                ·rw [if_pos c104] at H
                 have c104b0 : decide (x19_4 < (x14_2.length : Int)) = true := decide_eq_true c104
                 clear c104
                 by_cases c105 : (rd x14_2 x19_4) = ((rd_L5 l1 x19_4).length : Int)
                 ·rw [if_pos c105] at H
                  have c105b0 : ((rd x14_2 x19_4) == ((rd_L5 l1 x19_4).length : Int)) = true := beq_iff_eq.mpr c105
                  have c105b1 : ((rd x14_2 x19_4) != ((rd_L5 l1 x19_4).length : Int)) = false := bne_eq_false_iff_eq.mpr c105
                  clear c105
                  by_cases c106 : x19_4 < (t25.length : Int)
                  ·rw [if_pos c106] at H
                   have c106b0 : decide (x19_4 < (t25.length : Int)) = true := decide_eq_true c106
                   clear c106
                   by_cases c107 : ((rd_L6 t25 x19_4).length : Int) = ((rd_L5 l1 x19_4).length : Int)
                   ·rw [if_pos c107] at H
                    have c107b0 : (((rd_L6 t25 x19_4).length : Int) == ((rd_L5 l1 x19_4).length : Int)) = true := beq_iff_eq.mpr c107
                    have c107b1 : (((rd_L6 t25 x19_4).length : Int) != ((rd_L5 l1 x19_4).length : Int)) = false := bne_eq_false_iff_eq.mpr c107
                    have c107b2 : ((rd_L6 t25 x19_4).length == (rd_L5 l1 x19_4).length) = true := by (simp at c107 ⊢; omega)
                    clear c107
                    have H' := Aside0.mk H
                    clear H
                    try go_wp2
                    replace HO_10 := Aside0.mk (Kd.S_drew HO_10.out)
                    replace HO_12 := Aside0.mk (Kd.R_drew HO_12.out)
                    replace HO_14 := Aside0.mk (Kd.R_drew HO_14.out)
                    replace HO_18 := Aside0.mk (Kd.R_drew HO_18.out)
                    replace HO_32000 := Aside0.mk (Kd.R_drew HO_32000.out)
                    replace HO_32001 := Aside0.mk (Kd.R_drew HO_32001.out)
                    replace HO_32002 := Aside0.mk (Kd.R_drew HO_32002.out)
                    replace HO_61000 := Aside0.mk (Kd.R_drew HO_61000.out)
                    replace HO_61001 := Aside0.mk (Kd.R_drew HO_61001.out)
                    replace HO_61002 := Aside0.mk (Kd.R_drew HO_61002.out)
                    replace BK11 := Aside0.mk (blk_drew BK11.out)
                    replace BK31 := Aside0.mk (blk_drew BK31.out)
                    replace BK60 := Aside0.mk (blk_drew BK60.out)
                    replace HB := Aside0.mk (below_drew1 HB.out)
                    obtain ⟨Ao109, co109, eo109⟩ := Kd.R_slice HO_14.out
                    (subst eo109)
                    have p62 : 0 ≤ (x19_4 : Int) := of_decide_eq_true (by (with_reducible assumption))
                    have q62 : x19_4 < (x14_2.length : Int) := of_decide_eq_true (by (with_reducible assumption))
                    obtain ⟨ad62, e62, hx62_0⟩ := Kd.at_int (Kd.R_reads' HO_14.out).2.2 x19_4 p62 q62
                    cases e62
                    replace p62 := eq_true p62
                    replace q62 := eq_true q62
                    have p63 : 0 ≤ (x19_4 : Int) := of_decide_eq_true (by (with_reducible assumption))
                    have q63 : x19_4 < (l1.length : Int) := of_decide_eq_true (by (with_reducible assumption))
                    obtain ⟨ad63, A63_0, c63_0, e63, hx63_0, hl63_0, hi63_0⟩ := at_L5 HR1.out x19_4 p63 q63
                    have hw63_0 := hx63_0
                    cases e63
                    replace hx63_0 := (HB.out.cell (World.block_lt_of_cell? w _ hx63_0)).trans hx63_0
                    have HR63_0 := Aside0.mk hi63_0
                    have HC63_0 := Aside0.mk hl63_0
                    clear hi63_0 hl63_0
                    replace p63 := eq_true p63
                    replace q63 := eq_true q63
                    obtain ⟨Ao110, co110, eo110⟩ := Kd.S_slice HO_10.out
                    (subst eo110)
                    have p64 : 0 ≤ (x19_4 : Int) := of_decide_eq_true (by (with_reducible assumption))
                    have q64 : x19_4 < (t25.length : Int) := of_decide_eq_true (by (with_reducible assumption))
                    obtain ⟨ad64, A64_0, c64_0, e64, hx64_0, hl64_0, hi64_0⟩ := at_L6 (Kd.S_reads' HO_10.out).2.2 x19_4 p64 q64
                    cases e64
                    obtain ⟨ce64, hce64, hMe64, hcc64⟩ := Kd.S_get HO_10.out [] x19_4 p64 (by exact q64)
                    obtain ⟨ve64_0, rfl, ge64_0⟩ := hMe64
                    have hv64_0 := hcc64 0 _ rfl
                    rw [Nat.add_zero, show ((Kd.slice 73 k73)).sz = 1 from rfl, Nat.mul_one] at hv64_0
                    replace hv64_0 := Option.some.inj (hv64_0.symm.trans hx64_0)
                    rw [hv64_0] at ge64_0
                    have HL64_0 := Aside0.mk (show Kd.R k73 73 _ _ _ _ (rd_L6 t25 x19_4) from ge64_0)
                    clear hv64_0 ge64_0
                    clear hcc64 hce64
                    have HR64_0 := Aside0.mk hi64_0
                    have HC64_0 := Aside0.mk hl64_0
                    clear hi64_0 hl64_0
                    replace p64 := eq_true p64
                    replace q64 := eq_true q64
                    have p65 : 0 ≤ (x19_4 : Int) := of_decide_eq_true (by (with_reducible assumption))
                    have q65 : x19_4 < (l1.length : Int) := of_decide_eq_true (by (with_reducible assumption))
                    obtain ⟨ad65, A65_0, c65_0, e65, hx65_0, hl65_0, hi65_0⟩ := at_L5 HR1.out x19_4 p65 q65
                    have hw65_0 := hx65_0
                    obtain rfl : ad63 = ad65 := (by injection e65)
                    replace hx65_0 := (HB.out.cell (World.block_lt_of_cell? w _ hx65_0)).trans hx65_0
                    have HR65_0 := Aside0.mk hi65_0
                    have HC65_0 := Aside0.mk hl65_0
                    clear hi65_0 hl65_0
                    replace p65 := eq_true p65
                    replace q65 := eq_true q65
                    have ea_ := Option.some.inj (hx63_0.symm.trans hx65_0)
                    injection ea_ with ea_ en_ ec_
                    subst ea_
                    subst ec_
                    clear en_
                    refine start_ (n := 23) (S := fun w' => w'.cell? (ad62.add (x19_4).toNat) = some (.int .i64 (rd x14_2 x19_4)) ∧ w'.cell? (ad63.add (x19_4).toNat) = some (.slice A63_0 (rd_L5 l1 x19_4).length c63_0) ∧ w'.cell? (ad64.add (x19_4).toNat) = some (.slice A64_0 (rd_L6 t25 x19_4).length c64_0) ∧ w'.cell? (ad63.add (x19_4).toNat) = some (.slice A63_0 (rd_L5 l1 x19_4).length c63_0)) (ds := []) #[false, false, false, false, false, false, false, false, false, false, false, false, false, false, false, false, false, false, false, false, false, false, false] (by kernel_rfl) rfl rfl ⟨hx62_0, ((HB.out.cell (World.block_lt_of_cell? w _ hw63_0)).trans hw63_0), hx64_0, ((HB.out.cell (World.block_lt_of_cell? w _ hw65_0)).trans hw65_0)⟩ (fun hHeld => ?_); refine with_tabW roadbooklaw20_CallsOrder.tab23 roadbooklaw20_CallsOrder.bits23 (fun HT_ HW_ => ?_)
                    generalize wr.drew = w108 at HO_10 HO_12 HO_14 HO_18 HO_32000 HO_32001 HO_32002 HO_61000 HO_61001 HO_61002 BK11 BK31 BK60 HB HL64_0 HR63_0 HR64_0 HR65_0 hx62_0 hx63_0 hx64_0 hx65_0 hHeld ⊢
                    refine pure_ (i := 0) (N := some 145) (v := ?_) (a' := ?_) #[true, false, false, false, false, false, false, false, false, false, false, false, false, false, false, false, false, false, false, false, false, false, false] rfl rfl (any_of HT_.out (by kernel_rfl)) (fun _ _ _ h => h) (Or.inl ⟨by rfl, ?_⟩) ?_ ?_
                    rotate_left
                    ·intro w'
                     go_simp
                     with_reducible rfl
                    rotate_left
                    ·simp only [Act.put, List.setIfInBounds_toArray, List.set_cons_zero, List.set_cons_succ, i64_w, i32_w]
                     rfl
                    refine pure_ (i := 1) (N := some 146) (v := ?_) (a' := ?_) #[true, true, false, false, false, false, false, false, false, false, false, false, false, false, false, false, false, false, false, false, false, false, false] rfl rfl (any_of HT_.out (by kernel_rfl)) (fun _ _ _ h => h) (Or.inl ⟨by rfl, ?_⟩) ?_ ?_
                    rotate_left
                    ·intro w'
                     go_simp
                     with_reducible rfl
                    rotate_left
                    ·simp only [Act.put, List.setIfInBounds_toArray, List.set_cons_zero, List.set_cons_succ, i64_w, i32_w]
                     rfl
                    refine pure_ (i := 2) (N := some 147) (v := ?_) (a' := ?_) #[true, true, true, false, false, false, false, false, false, false, false, false, false, false, false, false, false, false, false, false, false, false, false] rfl rfl (any_of HT_.out (by kernel_rfl)) (fun _ _ _ h => h) (Or.inl ⟨by rfl, ?_⟩) ?_ ?_
                    rotate_left
                    ·intro w'
                     go_simp
                     with_reducible rfl
                    rotate_left
                    ·simp only [Act.put, List.setIfInBounds_toArray, List.set_cons_zero, List.set_cons_succ, i64_w, i32_w]
                     rfl
                    refine pure_ (i := 4) (N := some 149) (v := ?_) (a' := ?_) #[true, true, true, false, true, false, false, false, false, false, false, false, false, false, false, false, false, false, false, false, false, false, false] rfl rfl (any_of HT_.out (by kernel_rfl)) (fun _ _ _ h => h) (Or.inl ⟨by rfl, ?_⟩) ?_ ?_
                    rotate_left
                    ·intro w'
                     go_simp
                     with_reducible rfl
                    rotate_left
                    ·simp only [Act.put, List.setIfInBounds_toArray, List.set_cons_zero, List.set_cons_succ, i64_w, i32_w]
                     rfl
                    refine pure_ (i := 5) (N := some 150) (v := ?_) (a' := ?_) #[true, true, true, false, true, true, false, false, false, false, false, false, false, false, false, false, false, false, false, false, false, false, false] rfl rfl (any_of HT_.out (by kernel_rfl)) (fun _ _ _ h => h) (Or.inl ⟨by rfl, ?_⟩) ?_ ?_
                    rotate_left
                    ·intro w'
                     go_simp
                     with_reducible rfl
                    rotate_left
                    ·simp only [Act.put, List.setIfInBounds_toArray, List.set_cons_zero, List.set_cons_succ, i64_w, i32_w]
                     rfl
                    refine pure_ (i := 6) (N := some 151) (v := ?_) (a' := ?_) #[true, true, true, false, true, true, true, false, false, false, false, false, false, false, false, false, false, false, false, false, false, false, false] rfl rfl (any_of HT_.out (by kernel_rfl)) (fun _ _ _ h => h) (Or.inl ⟨by rfl, ?_⟩) ?_ ?_
                    rotate_left
                    ·intro w'
                     go_simp
                     with_reducible rfl
                    rotate_left
                    ·simp only [Act.put, List.setIfInBounds_toArray, List.set_cons_zero, List.set_cons_succ, i64_w, i32_w]
                     rfl
                    refine take_ (i := 3) (N := some 148) (v := ?_) (a' := ?_) #[true, true, true, true, true, true, true, false, false, false, false, false, false, false, false, false, false, false, false, false, false, false, false] rfl rfl (take_ofW HT_.out HW_.out (by kernel_rfl)) (fun _ _ _ h => h) (Or.inl ⟨by rfl, ?_⟩) hHeld ?_ ?_
                    rotate_left
                    ·rintro w' ⟨s0, s1, s2, s3⟩
                     go_simp
                     with_reducible rfl
                    rotate_left
                    ·simp only [Act.put, List.setIfInBounds_toArray, List.set_cons_zero, List.set_cons_succ, i64_w, i32_w]
                     rfl
                    refine take_ (i := 7) (N := some 152) (v := ?_) (a' := ?_) #[true, true, true, true, true, true, true, true, false, false, false, false, false, false, false, false, false, false, false, false, false, false, false] rfl rfl (take_ofW HT_.out HW_.out (by kernel_rfl)) (fun _ _ _ h => h) (Or.inl ⟨by rfl, ?_⟩) hHeld ?_ ?_
                    rotate_left
                    ·rintro w' ⟨s0, s1, s2, s3⟩
                     go_simp
                     with_reducible rfl
                    rotate_left
                    ·simp only [Act.put, List.setIfInBounds_toArray, List.set_cons_zero, List.set_cons_succ, i64_w, i32_w]
                     rfl
                    refine pure_ (i := 8) (N := some 153) (v := ?_) (a' := ?_) #[true, true, true, true, true, true, true, true, true, false, false, false, false, false, false, false, false, false, false, false, false, false, false] rfl rfl (any_of HT_.out (by kernel_rfl)) (fun _ _ _ h => h) (Or.inl ⟨by rfl, ?_⟩) ?_ ?_
                    rotate_left
                    ·intro w'
                     go_simp
                     with_reducible rfl
                    rotate_left
                    ·simp only [Act.put, List.setIfInBounds_toArray, List.set_cons_zero, List.set_cons_succ, i64_w, i32_w]
                     rfl
                    refine pure_ (i := 9) (N := some 154) (v := ?_) (a' := ?_) #[true, true, true, true, true, true, true, true, true, true, false, false, false, false, false, false, false, false, false, false, false, false, false] rfl rfl (any_of HT_.out (by kernel_rfl)) (fun _ _ _ h => h) (Or.inl ⟨by rfl, ?_⟩) ?_ ?_
                    rotate_left
                    ·intro w'
                     go_simp
                     with_reducible rfl
                    rotate_left
                    ·simp only [Act.put, List.setIfInBounds_toArray, List.set_cons_zero, List.set_cons_succ, i64_w, i32_w]
                     rfl
                    refine pure_ (i := 10) (N := some 155) (v := ?_) (a' := ?_) #[true, true, true, true, true, true, true, true, true, true, true, false, false, false, false, false, false, false, false, false, false, false, false] rfl rfl (any_of HT_.out (by kernel_rfl)) (fun _ _ _ h => h) (Or.inl ⟨by rfl, ?_⟩) ?_ ?_
                    rotate_left
                    ·intro w'
                     go_simp
                     with_reducible rfl
                    rotate_left
                    ·simp only [Act.put, List.setIfInBounds_toArray, List.set_cons_zero, List.set_cons_succ, i64_w, i32_w]
                     rfl
                    refine pure_ (i := 11) (N := some 156) (v := ?_) (a' := ?_) #[true, true, true, true, true, true, true, true, true, true, true, true, false, false, false, false, false, false, false, false, false, false, false] rfl rfl (any_of HT_.out (by kernel_rfl)) (fun _ _ _ h => h) (Or.inl ⟨by rfl, ?_⟩) ?_ ?_
                    rotate_left
                    ·intro w'
                     go_simp
                     with_reducible rfl
                    rotate_left
                    ·simp only [Act.put, List.setIfInBounds_toArray, List.set_cons_zero, List.set_cons_succ, i64_w, i32_w]
                     rfl
                    refine pure_ (i := 12) (N := some 157) (v := ?_) (a' := ?_) #[true, true, true, true, true, true, true, true, true, true, true, true, true, false, false, false, false, false, false, false, false, false, false] rfl rfl (any_of HT_.out (by kernel_rfl)) (fun _ _ _ h => h) (Or.inl ⟨by rfl, ?_⟩) ?_ ?_
                    rotate_left
                    ·intro w'
                     go_simp
                     with_reducible rfl
                    rotate_left
                    ·simp only [Act.put, List.setIfInBounds_toArray, List.set_cons_zero, List.set_cons_succ, i64_w, i32_w]
                     rfl
                    refine pure_ (i := 13) (N := some 158) (v := ?_) (a' := ?_) #[true, true, true, true, true, true, true, true, true, true, true, true, true, true, false, false, false, false, false, false, false, false, false] rfl rfl (any_of HT_.out (by kernel_rfl)) (fun _ _ _ h => h) (Or.inl ⟨by rfl, ?_⟩) ?_ ?_
                    rotate_left
                    ·intro w'
                     go_simp
                     with_reducible rfl
                    rotate_left
                    ·simp only [Act.put, List.setIfInBounds_toArray, List.set_cons_zero, List.set_cons_succ, i64_w, i32_w]
                     rfl
                    refine pure_ (i := 16) (N := some 161) (v := ?_) (a' := ?_) #[true, true, true, true, true, true, true, true, true, true, true, true, true, true, false, false, true, false, false, false, false, false, false] rfl rfl (any_of HT_.out (by kernel_rfl)) (fun _ _ _ h => h) (Or.inl ⟨by rfl, ?_⟩) ?_ ?_
                    rotate_left
                    ·intro w'
                     go_simp
                     with_reducible rfl
                    rotate_left
                    ·simp only [Act.put, List.setIfInBounds_toArray, List.set_cons_zero, List.set_cons_succ, i64_w, i32_w]
                     rfl
                    refine pure_ (i := 17) (N := some 162) (v := ?_) (a' := ?_) #[true, true, true, true, true, true, true, true, true, true, true, true, true, true, false, false, true, true, false, false, false, false, false] rfl rfl (any_of HT_.out (by kernel_rfl)) (fun _ _ _ h => h) (Or.inl ⟨by rfl, ?_⟩) ?_ ?_
                    rotate_left
                    ·intro w'
                     go_simp
                     with_reducible rfl
                    rotate_left
                    ·simp only [Act.put, List.setIfInBounds_toArray, List.set_cons_zero, List.set_cons_succ, i64_w, i32_w]
                     rfl
                    refine pure_ (i := 18) (N := some 163) (v := ?_) (a' := ?_) #[true, true, true, true, true, true, true, true, true, true, true, true, true, true, false, false, true, true, true, false, false, false, false] rfl rfl (any_of HT_.out (by kernel_rfl)) (fun _ _ _ h => h) (Or.inl ⟨by rfl, ?_⟩) ?_ ?_
                    rotate_left
                    ·intro w'
                     go_simp
                     with_reducible rfl
                    rotate_left
                    ·simp only [Act.put, List.setIfInBounds_toArray, List.set_cons_zero, List.set_cons_succ, i64_w, i32_w]
                     rfl
                    refine take_ (i := 14) (N := some 159) (v := ?_) (a' := ?_) #[true, true, true, true, true, true, true, true, true, true, true, true, true, true, true, false, true, true, true, false, false, false, false] rfl rfl (take_ofW HT_.out HW_.out (by kernel_rfl)) (fun _ _ _ h => h) (Or.inl ⟨by rfl, ?_⟩) hHeld ?_ ?_
                    rotate_left
                    ·rintro w' ⟨s0, s1, s2, s3⟩
                     go_simp
                     with_reducible rfl
                    rotate_left
                    ·simp only [Act.put, List.setIfInBounds_toArray, List.set_cons_zero, List.set_cons_succ, i64_w, i32_w]
                     rfl
                    refine pure_ (i := 15) (N := some 160) (v := ?_) (a' := ?_) #[true, true, true, true, true, true, true, true, true, true, true, true, true, true, true, true, true, true, true, false, false, false, false] rfl rfl (any_of HT_.out (by kernel_rfl)) (fun _ _ _ h => h) (Or.inl ⟨by rfl, ?_⟩) ?_ ?_
                    rotate_left
                    ·intro w'
                     go_simp
                     with_reducible rfl
                    rotate_left
                    ·simp only [Act.put, List.setIfInBounds_toArray, List.set_cons_zero, List.set_cons_succ, i64_w, i32_w]
                     rfl
                    refine take_ (i := 19) (N := some 164) (v := ?_) (a' := ?_) #[true, true, true, true, true, true, true, true, true, true, true, true, true, true, true, true, true, true, true, true, false, false, false] rfl rfl (take_ofW HT_.out HW_.out (by kernel_rfl)) (fun _ _ _ h => h) (Or.inl ⟨by rfl, ?_⟩) hHeld ?_ ?_
                    rotate_left
                    ·rintro w' ⟨s0, s1, s2, s3⟩
                     go_simp
                     with_reducible rfl
                    rotate_left
                    ·simp only [Act.put, List.setIfInBounds_toArray, List.set_cons_zero, List.set_cons_succ, i64_w, i32_w]
                     rfl
                    refine pure_ (i := 20) (N := some 165) (v := ?_) (a' := ?_) #[true, true, true, true, true, true, true, true, true, true, true, true, true, true, true, true, true, true, true, true, true, false, false] rfl rfl (any_of HT_.out (by kernel_rfl)) (fun _ _ _ h => h) (Or.inl ⟨by rfl, ?_⟩) ?_ ?_
                    rotate_left
                    ·intro w'
                     go_simp
                     with_reducible rfl
                    rotate_left
                    ·simp only [Act.put, List.setIfInBounds_toArray, List.set_cons_zero, List.set_cons_succ, i64_w, i32_w]
                     rfl
                    refine pure_ (i := 21) (N := some 166) (v := ?_) (a' := ?_) #[true, true, true, true, true, true, true, true, true, true, true, true, true, true, true, true, true, true, true, true, true, true, false] rfl rfl (any_of HT_.out (by kernel_rfl)) (fun _ _ _ h => h) (Or.inl ⟨by rfl, ?_⟩) ?_ ?_
                    rotate_left
                    ·intro w'
                     go_simp
                     with_reducible rfl
                    rotate_left
                    ·simp only [Act.put, List.setIfInBounds_toArray, List.set_cons_zero, List.set_cons_succ, i64_w, i32_w]
                     rfl
                    refine pure_ (i := 22) (N := some 167) (v := ?_) (a' := ?_) #[true, true, true, true, true, true, true, true, true, true, true, true, true, true, true, true, true, true, true, true, true, true, true] rfl rfl (any_of HT_.out (by kernel_rfl)) (fun _ _ _ h => h) (Or.inl ⟨by rfl, ?_⟩) ?_ ?_
                    rotate_left
                    ·intro w'
                     go_simp
                     with_reducible rfl
                    rotate_left
                    ·simp only [Act.put, List.setIfInBounds_toArray, List.set_cons_zero, List.set_cons_succ, i64_w, i32_w]
                     rfl
                    refine done_ (done_of HT_.out (by kernel_rfl)) ?_
                    try go_wp2
                    go_roundg k4
                    case measure => have := HJ5.out; have := HK2.out; have := HJ63.out; have := HK4.out; omega
                    case rel => exact ⟨(wrap64 (x19_4 + 1)), (by rfl), H', ⟨by have := HJ5.out; have := HK2.out; have := HJ63.out; have := HK4.out; omega⟩, ⟨by (with_reducible repeat (first | apply Kd.S_alloc | apply Kd.S_drewN | apply Kd.S_drew)); exact HO_10.out⟩, ⟨by (with_reducible repeat (first | apply Kd.R_alloc | apply Kd.R_drewN | apply Kd.R_drew)); exact HO_12.out⟩, ⟨by (with_reducible repeat (first | apply Kd.R_alloc | apply Kd.R_drewN | apply Kd.R_drew)); exact HO_14.out⟩, ⟨by (with_reducible repeat (first | apply Kd.R_alloc | apply Kd.R_drewN | apply Kd.R_drew)); exact HO_18.out⟩, ⟨by (with_reducible repeat (first | apply Kd.R_alloc | apply Kd.R_drewN | apply Kd.R_drew)); exact HO_32000.out⟩, ⟨by (with_reducible repeat (first | apply Kd.R_alloc | apply Kd.R_drewN | apply Kd.R_drew)); exact HO_32001.out⟩, ⟨by (with_reducible repeat (first | apply Kd.R_alloc | apply Kd.R_drewN | apply Kd.R_drew)); exact HO_32002.out⟩, ⟨by (with_reducible repeat (first | apply Kd.R_alloc | apply Kd.R_drewN | apply Kd.R_drew)); exact HO_61000.out⟩, ⟨by (with_reducible repeat (first | apply Kd.R_alloc | apply Kd.R_drewN | apply Kd.R_drew)); exact HO_61001.out⟩, ⟨by (with_reducible repeat (first | apply Kd.R_alloc | apply Kd.R_drewN | apply Kd.R_drew)); exact HO_61002.out⟩, ⟨kM BK11.out⟩, ⟨kM BK31.out⟩, ⟨kM BK60.out⟩, ⟨by repeat ((with_reducible first | exact HB.out ))⟩⟩
                   ·rw [if_neg c107] at H
                    have c107b0 : (((rd_L6 t25 x19_4).length : Int) == ((rd_L5 l1 x19_4).length : Int)) = false := beq_eq_false_iff_ne.mpr c107
                    have c107b1 : (((rd_L6 t25 x19_4).length : Int) != ((rd_L5 l1 x19_4).length : Int)) = true := bne_iff_ne.mpr c107
                    have c107b2 : ((rd_L6 t25 x19_4).length == (rd_L5 l1 x19_4).length) = false := by (simp at c107 ⊢; omega)
                    exact absurd (HRT.out.symm.trans (Option.some.inj H).symm) (by decide)
                  ·rw [if_neg c106] at H
                   exact absurd H (by simp)
                 ·rw [if_neg c105] at H
                  have c105b0 : ((rd x14_2 x19_4) == ((rd_L5 l1 x19_4).length : Int)) = false := beq_eq_false_iff_ne.mpr c105
                  have c105b1 : ((rd x14_2 x19_4) != ((rd_L5 l1 x19_4).length : Int)) = true := bne_iff_ne.mpr c105
                  exact absurd (HRT.out.symm.trans (Option.some.inj H).symm) (by decide)
                ·rw [if_neg c104] at H
                 exact absurd H (by simp)
               ·rw [if_neg c103] at H
                exact absurd H (by simp)
              ·rw [if_neg c102] at H
               have c102b0 : decide (x19_4 < (l1.length : Int)) = false := decide_eq_false c102
               clear c102
               have H' := Aside0.mk H
               clear H
               go_wp2
               go_loopg [20] k4 (fun kq v20 w' => ∃ (x20_5 : Int), v20 = .int .i64 x20_5 ∧ Aside0 (roadbooklaw20_CallsOrder.l2 kq t25 t32 t57 x20_5 = some r) ∧ Aside0 (kq ≤ k4) ∧ Aside0 (Kd.S (Kd.slice 73 k73) 71 w' w.heap.size (fun k_ => some k_ ≠ (v58 : Value).ownBlock) v26 t25) ∧ Aside0 (Kd.R k68 68 w' w.heap.size (fun _ => True) (.slice Ao65 t32.length co65) t32) ∧ Aside0 (Kd.R k73 73 w' w.heap.size (fun _ => True) v58 t57) ∧ Aside0 (Kd.R k48 48 w' w.heap.size (fun k_ => some k_ ≠ ((.slice Ao71 t48.length co71) : Value).ownBlock) (.slice Ao28 t16.length co28) t16) ∧ Aside0 (Kd.R (Kd.int .i64) 3 w' w.heap.size (fun k_ => some k_ ≠ ((.slice Ao32 t22.length co32) : Value).ownBlock ∧ some k_ ≠ ((.slice Ao75 t51.length co75) : Value).ownBlock ∧ some k_ ≠ ((.slice Ao76 t54.length co76) : Value).ownBlock) (.slice Ao31 t19.length co31) t19) ∧ Aside0 (Kd.R (Kd.int .i64) 3 w' w.heap.size (fun k_ => some k_ ≠ ((.slice Ao31 t19.length co31) : Value).ownBlock ∧ some k_ ≠ ((.slice Ao75 t51.length co75) : Value).ownBlock ∧ some k_ ≠ ((.slice Ao76 t54.length co76) : Value).ownBlock) (.slice Ao32 t22.length co32) t22) ∧ Aside0 (Kd.R k48 48 w' w.heap.size (fun k_ => some k_ ≠ ((.slice Ao28 t16.length co28) : Value).ownBlock) (.slice Ao71 t48.length co71) t48) ∧ Aside0 (Kd.R (Kd.int .i64) 3 w' w.heap.size (fun k_ => some k_ ≠ ((.slice Ao31 t19.length co31) : Value).ownBlock ∧ some k_ ≠ ((.slice Ao32 t22.length co32) : Value).ownBlock ∧ some k_ ≠ ((.slice Ao76 t54.length co76) : Value).ownBlock) (.slice Ao75 t51.length co75) t51) ∧ Aside0 (Kd.R (Kd.int .i64) 3 w' w.heap.size (fun k_ => some k_ ≠ ((.slice Ao31 t19.length co31) : Value).ownBlock ∧ some k_ ≠ ((.slice Ao32 t22.length co32) : Value).ownBlock ∧ some k_ ≠ ((.slice Ao75 t51.length co75) : Value).ownBlock) (.slice Ao76 t54.length co76) t54) ∧ Aside0 (w'.heap[gb11]? = some (.cells #[(.slice A0_0 l0_0.length c0_0), (.slice A0_1 l0_1.length c0_1), (.slice A0_2 l0_2.length c0_2)] 38 (0, 0))) ∧ Aside0 (w'.heap[gb31]? = some (.cells #[(.slice Ao28 t16.length co28), (.slice Ao31 t19.length co31), (.slice Ao32 t22.length co32)] 38 (0, 0))) ∧ Aside0 (w'.heap[gb60]? = some (.cells #[(.slice Ao71 t48.length co71), (.slice Ao75 t51.length co75), (.slice Ao76 t54.length co76)] 38 (0, 0))) ∧ Aside0 (Below w.heap.size w w'))
               case atStart => exact ⟨(0), (by rfl), H', ⟨Nat.le_refl _⟩, ⟨by (with_reducible repeat (first | apply Kd.S_alloc | apply Kd.S_drewN | apply Kd.S_drew)); exact HO_10.out⟩, ⟨by (with_reducible repeat (first | apply Kd.R_alloc | apply Kd.R_drewN | apply Kd.R_drew)); exact HO_12.out⟩, ⟨by (with_reducible repeat (first | apply Kd.R_alloc | apply Kd.R_drewN | apply Kd.R_drew)); exact HO_18.out⟩, ⟨by (with_reducible repeat (first | apply Kd.R_alloc | apply Kd.R_drewN | apply Kd.R_drew)); exact HO_32000.out⟩, ⟨by (with_reducible repeat (first | apply Kd.R_alloc | apply Kd.R_drewN | apply Kd.R_drew)); exact Kd.R_mono HO_32001.out (fun _ hk => ⟨hk.2.1, ⟨hk.2.2.1, hk.2.2.2⟩⟩)⟩, ⟨by (with_reducible repeat (first | apply Kd.R_alloc | apply Kd.R_drewN | apply Kd.R_drew)); exact Kd.R_mono HO_32002.out (fun _ hk => ⟨hk.2.1, ⟨hk.2.2.1, hk.2.2.2⟩⟩)⟩, ⟨by (with_reducible repeat (first | apply Kd.R_alloc | apply Kd.R_drewN | apply Kd.R_drew)); exact HO_61000.out⟩, ⟨by (with_reducible repeat (first | apply Kd.R_alloc | apply Kd.R_drewN | apply Kd.R_drew)); exact Kd.R_mono HO_61001.out (fun _ hk => ⟨hk.2.1, ⟨hk.2.2.1, hk.2.2.2⟩⟩)⟩, ⟨by (with_reducible repeat (first | apply Kd.R_alloc | apply Kd.R_drewN | apply Kd.R_drew)); exact Kd.R_mono HO_61002.out (fun _ hk => ⟨hk.2.1, ⟨hk.2.2.1, hk.2.2.2⟩⟩)⟩, ⟨kM BK11.out⟩, ⟨kM BK31.out⟩, ⟨kM BK60.out⟩, ⟨by repeat ((with_reducible first | exact HB.out ))⟩⟩
               case round =>
                clear H'
                try clear c102b0
                obtain ⟨x20_5, rfl, HA, HK5, HO_10, HO_12, HO_18, HO_32000, HO_32001, HO_32002, HO_61000, HO_61001, HO_61002, BK11, BK31, BK60, HB⟩ := hrel
                cases gk with
                | zero => exact absurd HA.out (by simp [roadbooklaw20_CallsOrder.l2])
                | succ k5 =>
                 have H := HA.out
                 clear HA
                 simp only [roadbooklaw20_CallsOrder.l2] at H
                 by_cases c111 : x20_5 < (t32.length : Int)
                 ·rw [if_pos c111] at H
                  have c111b0 : decide (x20_5 < (t32.length : Int)) = true := decide_eq_true c111
                  clear c111
                  by_cases c112 : 0 ≤ x20_5
                  ·rw [if_pos c112] at H
                   have c112b0 : decide (0 ≤ x20_5) = true := decide_eq_true c112
                   clear c112
                   by_cases c113 : 0 ≤ ((rd_T68 t32 x20_5).f0)
                   ·rw [if_pos c113] at H
                    have c113b0 : decide (0 ≤ ((rd_T68 t32 x20_5).f0)) = true := decide_eq_true c113
                    clear c113
                    by_cases c114 : ((rd_T68 t32 x20_5).f0) < (t25.length : Int)
                    ·rw [if_pos c114] at H
                     have c114b0 : decide (((rd_T68 t32 x20_5).f0) < (t25.length : Int)) = true := decide_eq_true c114
                     clear c114
                     by_cases c115 : 0 ≤ ((rd_T68 t32 x20_5).f1)
                     ·rw [if_pos c115] at H
                      have c115b0 : decide (0 ≤ ((rd_T68 t32 x20_5).f1)) = true := decide_eq_true c115
                      clear c115
                      by_cases c116 : ((rd_T68 t32 x20_5).f1) < ((rd_L6 t25 ((rd_T68 t32 x20_5).f0)).length : Int)
                      ·rw [if_pos c116] at H
                       have c116b0 : decide (((rd_T68 t32 x20_5).f1) < ((rd_L6 t25 ((rd_T68 t32 x20_5).f0)).length : Int)) = true := decide_eq_true c116
                       clear c116
                       by_cases c117 : x20_5 < (t57.length : Int)
                       ·rw [if_pos c117] at H
                        have c117b0 : decide (x20_5 < (t57.length : Int)) = true := decide_eq_true c117
                        clear c117
                        by_cases c118 : (!(((rd_T73 (rd_L6 t25 ((rd_T68 t32 x20_5).f0)) ((rd_T68 t32 x20_5).f1)).f0) == ((rd_T73 t57 x20_5).f0)) || (!(((rd_T73 (rd_L6 t25 ((rd_T68 t32 x20_5).f0)) ((rd_T68 t32 x20_5).f1)).f1) == ((rd_T73 t57 x20_5).f1)))) = true
                        ·rw [if_pos c118] at H
                         have c118b0 : (!(((rd_T73 (rd_L6 t25 ((rd_T68 t32 x20_5).f0)) ((rd_T68 t32 x20_5).f1)).f0) == ((rd_T73 t57 x20_5).f0)) || (!(((rd_T73 (rd_L6 t25 ((rd_T68 t32 x20_5).f0)) ((rd_T68 t32 x20_5).f1)).f1) == ((rd_T73 t57 x20_5).f1)))) = true := c118
                         clear c118
                         exact absurd (HRT.out.symm.trans (Option.some.inj H).symm) (by decide)
                        ·rw [if_neg c118] at H
                         have c118b0 : (!(((rd_T73 (rd_L6 t25 ((rd_T68 t32 x20_5).f0)) ((rd_T68 t32 x20_5).f1)).f0) == ((rd_T73 t57 x20_5).f0)) || (!(((rd_T73 (rd_L6 t25 ((rd_T68 t32 x20_5).f0)) ((rd_T68 t32 x20_5).f1)).f1) == ((rd_T73 t57 x20_5).f1)))) = false := by simpa using c118
                         clear c118
                         have H' := Aside0.mk H
                         clear H
                         try go_wp2
                         replace HO_10 := Aside0.mk (Kd.S_drew HO_10.out)
                         replace HO_12 := Aside0.mk (Kd.R_drew HO_12.out)
                         replace HO_18 := Aside0.mk (Kd.R_drew HO_18.out)
                         replace HO_32000 := Aside0.mk (Kd.R_drew HO_32000.out)
                         replace HO_32001 := Aside0.mk (Kd.R_drew HO_32001.out)
                         replace HO_32002 := Aside0.mk (Kd.R_drew HO_32002.out)
                         replace HO_61000 := Aside0.mk (Kd.R_drew HO_61000.out)
                         replace HO_61001 := Aside0.mk (Kd.R_drew HO_61001.out)
                         replace HO_61002 := Aside0.mk (Kd.R_drew HO_61002.out)
                         replace BK11 := Aside0.mk (blk_drew BK11.out)
                         replace BK31 := Aside0.mk (blk_drew BK31.out)
                         replace BK60 := Aside0.mk (blk_drew BK60.out)
                         replace HB := Aside0.mk (below_drew1 HB.out)
                         have p66 : 0 ≤ (x20_5 : Int) := of_decide_eq_true (by (with_reducible assumption))
                         have q66 : x20_5 < (t32.length : Int) := of_decide_eq_true (by (with_reducible assumption))
                         obtain ⟨ad66, e66, hx66_0, hx66_1, hx66_2⟩ := at_T68 (Kd.R_reads' HO_12.out).2.2 x20_5 p66 q66
                         cases e66
                         replace p66 := eq_true p66
                         replace q66 := eq_true q66
                         obtain ⟨Ao120, co120, eo120⟩ := Kd.S_slice HO_10.out
                         (subst eo120)
                         have p67 : 0 ≤ (((rd_T68 t32 x20_5).f0) : Int) := of_decide_eq_true (by (with_reducible assumption))
                         have q67 : ((rd_T68 t32 x20_5).f0) < (t25.length : Int) := of_decide_eq_true (by (with_reducible assumption))
                         obtain ⟨ad67, A67_0, c67_0, e67, hx67_0, hl67_0, hi67_0⟩ := at_L6 (Kd.S_reads' HO_10.out).2.2 ((rd_T68 t32 x20_5).f0) p67 q67
                         cases e67
                         obtain ⟨ce67, hce67, hMe67, hcc67⟩ := Kd.S_get HO_10.out [] ((rd_T68 t32 x20_5).f0) p67 (by exact q67)
                         obtain ⟨ve67_0, rfl, ge67_0⟩ := hMe67
                         have hv67_0 := hcc67 0 _ rfl
                         rw [Nat.add_zero, show ((Kd.slice 73 k73)).sz = 1 from rfl, Nat.mul_one] at hv67_0
                         replace hv67_0 := Option.some.inj (hv67_0.symm.trans hx67_0)
                         rw [hv67_0] at ge67_0
                         have HL67_0 := Aside0.mk (show Kd.R k73 73 _ _ _ _ (rd_L6 t25 ((rd_T68 t32 x20_5).f0)) from ge67_0)
                         clear hv67_0 ge67_0
                         clear hcc67 hce67
                         have HR67_0 := Aside0.mk hi67_0
                         have HC67_0 := Aside0.mk hl67_0
                         clear hi67_0 hl67_0
                         replace p67 := eq_true p67
                         replace q67 := eq_true q67
                         have p68 : 0 ≤ (x20_5 : Int) := of_decide_eq_true (by (with_reducible assumption))
                         have q68 : x20_5 < (t32.length : Int) := of_decide_eq_true (by (with_reducible assumption))
                         obtain ⟨ad68, e68, hx68_0, hx68_1, hx68_2⟩ := at_T68 (Kd.R_reads' HO_12.out).2.2 x20_5 p68 q68
                         obtain rfl : ad66 = ad68 := (by injection e68)
                         replace p68 := eq_true p68
                         replace q68 := eq_true q68
                         have p69 : 0 ≤ (((rd_T68 t32 x20_5).f1) : Int) := of_decide_eq_true (by (with_reducible assumption))
                         have q69 : ((rd_T68 t32 x20_5).f1) < ((rd_L6 t25 ((rd_T68 t32 x20_5).f0)).length : Int) := of_decide_eq_true (by (with_reducible assumption))
                         obtain ⟨ad69, e69, hx69_0, hx69_1⟩ := at_T73 (by repeat ((with_reducible exact HR67_0.out))) ((rd_T68 t32 x20_5).f1) p69 q69
                         cases e69
                         replace p69 := eq_true p69
                         replace q69 := eq_true q69
                         obtain ⟨Ao121, co121, eo121⟩ := Kd.R_slice HO_18.out
                         (subst eo121)
                         have p70 : 0 ≤ (x20_5 : Int) := of_decide_eq_true (by (with_reducible assumption))
                         have q70 : x20_5 < (t57.length : Int) := of_decide_eq_true (by (with_reducible assumption))
                         obtain ⟨ad70, e70, hx70_0, hx70_1⟩ := at_T73 (Kd.R_reads' HO_18.out).2.2 x20_5 p70 q70
                         cases e70
                         replace p70 := eq_true p70
                         replace q70 := eq_true q70
                         refine start_ (n := 20) (S := fun w' => w'.cell? (ad66.add ((x20_5).toNat * 3)) = some (.int .i64 ((rd_T68 t32 x20_5).f0)) ∧ w'.cell? ⟨(ad66.add ((x20_5).toNat * 3)).block, (ad66.add ((x20_5).toNat * 3)).off + 1, none⟩ = some (.int .i64 ((rd_T68 t32 x20_5).f1)) ∧ w'.cell? ⟨(ad66.add ((x20_5).toNat * 3)).block, (ad66.add ((x20_5).toNat * 3)).off + 2, none⟩ = some (.int .i64 ((rd_T68 t32 x20_5).f2)) ∧ w'.cell? (ad67.add (((rd_T68 t32 x20_5).f0)).toNat) = some (.slice (some ad69) (rd_L6 t25 ((rd_T68 t32 x20_5).f0)).length c67_0) ∧ w'.cell? (ad66.add ((x20_5).toNat * 3)) = some (.int .i64 ((rd_T68 t32 x20_5).f0)) ∧ w'.cell? ⟨(ad66.add ((x20_5).toNat * 3)).block, (ad66.add ((x20_5).toNat * 3)).off + 1, none⟩ = some (.int .i64 ((rd_T68 t32 x20_5).f1)) ∧ w'.cell? ⟨(ad66.add ((x20_5).toNat * 3)).block, (ad66.add ((x20_5).toNat * 3)).off + 2, none⟩ = some (.int .i64 ((rd_T68 t32 x20_5).f2)) ∧ w'.cell? (ad69.add ((((rd_T68 t32 x20_5).f1)).toNat * 2)) = some (.int .i64 ((rd_T73 (rd_L6 t25 ((rd_T68 t32 x20_5).f0)) ((rd_T68 t32 x20_5).f1)).f0)) ∧ w'.cell? ⟨(ad69.add ((((rd_T68 t32 x20_5).f1)).toNat * 2)).block, (ad69.add ((((rd_T68 t32 x20_5).f1)).toNat * 2)).off + 1, none⟩ = some (.int .i64 ((rd_T73 (rd_L6 t25 ((rd_T68 t32 x20_5).f0)) ((rd_T68 t32 x20_5).f1)).f1)) ∧ w'.cell? (ad70.add ((x20_5).toNat * 2)) = some (.int .i64 ((rd_T73 t57 x20_5).f0)) ∧ w'.cell? ⟨(ad70.add ((x20_5).toNat * 2)).block, (ad70.add ((x20_5).toNat * 2)).off + 1, none⟩ = some (.int .i64 ((rd_T73 t57 x20_5).f1))) (ds := []) #[false, false, false, false, false, false, false, false, false, false, false, false, false, false, false, false, false, false, false, false] (by kernel_rfl) rfl rfl ⟨hx66_0, hx66_1, hx66_2, hx67_0, hx68_0, hx68_1, hx68_2, hx69_0, hx69_1, hx70_0, hx70_1⟩ (fun hHeld => ?_); refine with_tabW roadbooklaw20_CallsOrder.tab28 roadbooklaw20_CallsOrder.bits28 (fun HT_ HW_ => ?_)
                         generalize wr.drew = w119 at HO_10 HO_12 HO_18 HO_32000 HO_32001 HO_32002 HO_61000 HO_61001 HO_61002 BK11 BK31 BK60 HB HL67_0 HR67_0 hx66_0 hx66_1 hx66_2 hx67_0 hx68_0 hx68_1 hx68_2 hx69_0 hx69_1 hx70_0 hx70_1 hHeld ⊢
                         refine pure_ (i := 0) (N := some 174) (v := ?_) (a' := ?_) #[true, false, false, false, false, false, false, false, false, false, false, false, false, false, false, false, false, false, false, false] rfl rfl (any_of HT_.out (by kernel_rfl)) (fun _ _ _ h => h) (Or.inl ⟨by rfl, ?_⟩) ?_ ?_
                         rotate_left
                         ·intro w'
                          go_simp
                          with_reducible rfl
                         rotate_left
                         ·simp only [Act.put, List.setIfInBounds_toArray, List.set_cons_zero, List.set_cons_succ, i64_w, i32_w]
                          rfl
                         refine pure_ (i := 1) (N := some 175) (v := ?_) (a' := ?_) #[true, true, false, false, false, false, false, false, false, false, false, false, false, false, false, false, false, false, false, false] rfl rfl (any_of HT_.out (by kernel_rfl)) (fun _ _ _ h => h) (Or.inl ⟨by rfl, ?_⟩) ?_ ?_
                         rotate_left
                         ·intro w'
                          go_simp
                          with_reducible rfl
                         rotate_left
                         ·simp only [Act.put, List.setIfInBounds_toArray, List.set_cons_zero, List.set_cons_succ, i64_w, i32_w]
                          rfl
                         refine pure_ (i := 2) (N := some 176) (v := ?_) (a' := ?_) #[true, true, true, false, false, false, false, false, false, false, false, false, false, false, false, false, false, false, false, false] rfl rfl (any_of HT_.out (by kernel_rfl)) (fun _ _ _ h => h) (Or.inl ⟨by rfl, ?_⟩) ?_ ?_
                         rotate_left
                         ·intro w'
                          go_simp
                          with_reducible rfl
                         rotate_left
                         ·simp only [Act.put, List.setIfInBounds_toArray, List.set_cons_zero, List.set_cons_succ, i64_w, i32_w]
                          rfl
                         refine pure_ (i := 3) (N := some 177) (v := ?_) (a' := ?_) #[true, true, true, true, false, false, false, false, false, false, false, false, false, false, false, false, false, false, false, false] rfl rfl (any_of HT_.out (by kernel_rfl)) (fun _ _ _ h => h) (Or.inl ⟨by rfl, ?_⟩) ?_ ?_
                         rotate_left
                         ·intro w'
                          go_simp
                          with_reducible rfl
                         rotate_left
                         ·simp only [Act.put, List.setIfInBounds_toArray, List.set_cons_zero, List.set_cons_succ, i64_w, i32_w]
                          rfl
                         refine pure_ (i := 4) (N := some 178) (v := ?_) (a' := ?_) #[true, true, true, true, true, false, false, false, false, false, false, false, false, false, false, false, false, false, false, false] rfl rfl (any_of HT_.out (by kernel_rfl)) (fun _ _ _ h => h) (Or.inl ⟨by rfl, ?_⟩) ?_ ?_
                         rotate_left
                         ·intro w'
                          go_simp
                          with_reducible rfl
                         rotate_left
                         ·simp only [Act.put, List.setIfInBounds_toArray, List.set_cons_zero, List.set_cons_succ, i64_w, i32_w]
                          rfl
                         refine pure_ (i := 8) (N := some 182) (v := ?_) (a' := ?_) #[true, true, true, true, true, false, false, false, true, false, false, false, false, false, false, false, false, false, false, false] rfl rfl (any_of HT_.out (by kernel_rfl)) (fun _ _ _ h => h) (Or.inl ⟨by rfl, ?_⟩) ?_ ?_
                         rotate_left
                         ·intro w'
                          go_simp
                          with_reducible rfl
                         rotate_left
                         ·simp only [Act.put, List.setIfInBounds_toArray, List.set_cons_zero, List.set_cons_succ, i64_w, i32_w]
                          rfl
                         refine pure_ (i := 9) (N := some 183) (v := ?_) (a' := ?_) #[true, true, true, true, true, false, false, false, true, true, false, false, false, false, false, false, false, false, false, false] rfl rfl (any_of HT_.out (by kernel_rfl)) (fun _ _ _ h => h) (Or.inl ⟨by rfl, ?_⟩) ?_ ?_
                         rotate_left
                         ·intro w'
                          go_simp
                          with_reducible rfl
                         rotate_left
                         ·simp only [Act.put, List.setIfInBounds_toArray, List.set_cons_zero, List.set_cons_succ, i64_w, i32_w]
                          rfl
                         refine pure_ (i := 10) (N := some 184) (v := ?_) (a' := ?_) #[true, true, true, true, true, false, false, false, true, true, true, false, false, false, false, false, false, false, false, false] rfl rfl (any_of HT_.out (by kernel_rfl)) (fun _ _ _ h => h) (Or.inl ⟨by rfl, ?_⟩) ?_ ?_
                         rotate_left
                         ·intro w'
                          go_simp
                          with_reducible rfl
                         rotate_left
                         ·simp only [Act.put, List.setIfInBounds_toArray, List.set_cons_zero, List.set_cons_succ, i64_w, i32_w]
                          rfl
                         refine pure_ (i := 11) (N := some 185) (v := ?_) (a' := ?_) #[true, true, true, true, true, false, false, false, true, true, true, true, false, false, false, false, false, false, false, false] rfl rfl (any_of HT_.out (by kernel_rfl)) (fun _ _ _ h => h) (Or.inl ⟨by rfl, ?_⟩) ?_ ?_
                         rotate_left
                         ·intro w'
                          go_simp
                          with_reducible rfl
                         rotate_left
                         ·simp only [Act.put, List.setIfInBounds_toArray, List.set_cons_zero, List.set_cons_succ, i64_w, i32_w]
                          rfl
                         refine pure_ (i := 15) (N := some 189) (v := ?_) (a' := ?_) #[true, true, true, true, true, false, false, false, true, true, true, true, false, false, false, true, false, false, false, false] rfl rfl (any_of HT_.out (by kernel_rfl)) (fun _ _ _ h => h) (Or.inl ⟨by rfl, ?_⟩) ?_ ?_
                         rotate_left
                         ·intro w'
                          go_simp
                          with_reducible rfl
                         rotate_left
                         ·simp only [Act.put, List.setIfInBounds_toArray, List.set_cons_zero, List.set_cons_succ, i64_w, i32_w]
                          rfl
                         refine pure_ (i := 16) (N := some 190) (v := ?_) (a' := ?_) #[true, true, true, true, true, false, false, false, true, true, true, true, false, false, false, true, true, false, false, false] rfl rfl (any_of HT_.out (by kernel_rfl)) (fun _ _ _ h => h) (Or.inl ⟨by rfl, ?_⟩) ?_ ?_
                         rotate_left
                         ·intro w'
                          go_simp
                          with_reducible rfl
                         rotate_left
                         ·simp only [Act.put, List.setIfInBounds_toArray, List.set_cons_zero, List.set_cons_succ, i64_w, i32_w]
                          rfl
                         refine pure_ (i := 17) (N := some 191) (v := ?_) (a' := ?_) #[true, true, true, true, true, false, false, false, true, true, true, true, false, false, false, true, true, true, false, false] rfl rfl (any_of HT_.out (by kernel_rfl)) (fun _ _ _ h => h) (Or.inl ⟨by rfl, ?_⟩) ?_ ?_
                         rotate_left
                         ·intro w'
                          go_simp
                          with_reducible rfl
                         rotate_left
                         ·simp only [Act.put, List.setIfInBounds_toArray, List.set_cons_zero, List.set_cons_succ, i64_w, i32_w]
                          rfl
                         refine take_ (i := 5) (N := some 179) (v := ?_) (a' := ?_) #[true, true, true, true, true, true, false, false, true, true, true, true, false, false, false, true, true, true, false, false] rfl rfl (take_ofW HT_.out HW_.out (by kernel_rfl)) (fun _ _ _ h => h) (Or.inl ⟨by rfl, ?_⟩) hHeld ?_ ?_
                         rotate_left
                         ·rintro w' ⟨s0, s1, s2, s3, s4, s5, s6, s7, s8, s9, s10⟩
                          go_simp
                          with_reducible rfl
                         rotate_left
                         ·simp only [Act.put, List.setIfInBounds_toArray, List.set_cons_zero, List.set_cons_succ, i64_w, i32_w]
                          rfl
                         refine pure_ (i := 6) (N := some 180) (v := ?_) (a' := ?_) #[true, true, true, true, true, true, true, false, true, true, true, true, false, false, false, true, true, true, false, false] rfl rfl (any_of HT_.out (by kernel_rfl)) (fun _ _ _ h => h) (Or.inl ⟨by rfl, ?_⟩) ?_ ?_
                         rotate_left
                         ·intro w'
                          go_simp
                          with_reducible rfl
                         rotate_left
                         ·simp only [Act.put, List.setIfInBounds_toArray, List.set_cons_zero, List.set_cons_succ, i64_w, i32_w]
                          rfl
                         refine take_ (i := 7) (N := some 181) (v := ?_) (a' := ?_) #[true, true, true, true, true, true, true, true, true, true, true, true, false, false, false, true, true, true, false, false] rfl rfl (take_ofW HT_.out HW_.out (by kernel_rfl)) (fun _ _ _ h => h) (Or.inl ⟨by rfl, ?_⟩) hHeld ?_ ?_
                         rotate_left
                         ·rintro w' ⟨s0, s1, s2, s3, s4, s5, s6, s7, s8, s9, s10⟩
                          go_simp
                          with_reducible rfl
                         rotate_left
                         ·simp only [Act.put, List.setIfInBounds_toArray, List.set_cons_zero, List.set_cons_succ, i64_w, i32_w]
                          rfl
                         refine take_ (i := 12) (N := some 186) (v := ?_) (a' := ?_) #[true, true, true, true, true, true, true, true, true, true, true, true, true, false, false, true, true, true, false, false] rfl rfl (take_ofW HT_.out HW_.out (by kernel_rfl)) (fun _ _ _ h => h) (Or.inl ⟨by rfl, ?_⟩) hHeld ?_ ?_
                         rotate_left
                         ·rintro w' ⟨s0, s1, s2, s3, s4, s5, s6, s7, s8, s9, s10⟩
                          go_simp
                          with_reducible rfl
                         rotate_left
                         ·simp only [Act.put, List.setIfInBounds_toArray, List.set_cons_zero, List.set_cons_succ, i64_w, i32_w]
                          rfl
                         refine pure_ (i := 13) (N := some 187) (v := ?_) (a' := ?_) #[true, true, true, true, true, true, true, true, true, true, true, true, true, true, false, true, true, true, false, false] rfl rfl (any_of HT_.out (by kernel_rfl)) (fun _ _ _ h => h) (Or.inl ⟨by rfl, ?_⟩) ?_ ?_
                         rotate_left
                         ·intro w'
                          go_simp
                          with_reducible rfl
                         rotate_left
                         ·simp only [Act.put, List.setIfInBounds_toArray, List.set_cons_zero, List.set_cons_succ, i64_w, i32_w]
                          rfl
                         refine take_ (i := 14) (N := some 188) (v := ?_) (a' := ?_) #[true, true, true, true, true, true, true, true, true, true, true, true, true, true, true, true, true, true, false, false] rfl rfl (take_ofW HT_.out HW_.out (by kernel_rfl)) (fun _ _ _ h => h) (Or.inl ⟨by rfl, ?_⟩) hHeld ?_ ?_
                         rotate_left
                         ·rintro w' ⟨s0, s1, s2, s3, s4, s5, s6, s7, s8, s9, s10⟩
                          go_simp
                          with_reducible rfl
                         rotate_left
                         ·simp only [Act.put, List.setIfInBounds_toArray, List.set_cons_zero, List.set_cons_succ, i64_w, i32_w]
                          rfl
                         refine take_ (i := 18) (N := some 192) (v := ?_) (a' := ?_) #[true, true, true, true, true, true, true, true, true, true, true, true, true, true, true, true, true, true, true, false] rfl rfl (take_ofW HT_.out HW_.out (by kernel_rfl)) (fun _ _ _ h => h) (Or.inl ⟨by rfl, ?_⟩) hHeld ?_ ?_
                         rotate_left
                         ·rintro w' ⟨s0, s1, s2, s3, s4, s5, s6, s7, s8, s9, s10⟩
                          go_simp
                          with_reducible rfl
                         rotate_left
                         ·simp only [Act.put, List.setIfInBounds_toArray, List.set_cons_zero, List.set_cons_succ, i64_w, i32_w]
                          rfl
                         refine pure_ (i := 19) (N := some 193) (v := ?_) (a' := ?_) #[true, true, true, true, true, true, true, true, true, true, true, true, true, true, true, true, true, true, true, true] rfl rfl (any_of HT_.out (by kernel_rfl)) (fun _ _ _ h => h) (Or.inl ⟨by rfl, ?_⟩) ?_ ?_
                         rotate_left
                         ·intro w'
                          go_simp
                          with_reducible rfl
                         rotate_left
                         ·simp only [Act.put, List.setIfInBounds_toArray, List.set_cons_zero, List.set_cons_succ, i64_w, i32_w]
                          rfl
                         refine done_ (done_of HT_.out (by kernel_rfl)) ?_
                         try go_wp2
                         go_roundg k5
                         case measure => have := HJ5.out; have := HK2.out; have := HJ63.out; have := HK4.out; have := HK5.out; omega
                         case rel => exact ⟨(wrap64 (x20_5 + 1)), (by rfl), H', ⟨by have := HJ5.out; have := HK2.out; have := HJ63.out; have := HK4.out; have := HK5.out; omega⟩, ⟨by (with_reducible repeat (first | apply Kd.S_alloc | apply Kd.S_drewN | apply Kd.S_drew)); exact HO_10.out⟩, ⟨by (with_reducible repeat (first | apply Kd.R_alloc | apply Kd.R_drewN | apply Kd.R_drew)); exact HO_12.out⟩, ⟨by (with_reducible repeat (first | apply Kd.R_alloc | apply Kd.R_drewN | apply Kd.R_drew)); exact HO_18.out⟩, ⟨by (with_reducible repeat (first | apply Kd.R_alloc | apply Kd.R_drewN | apply Kd.R_drew)); exact HO_32000.out⟩, ⟨by (with_reducible repeat (first | apply Kd.R_alloc | apply Kd.R_drewN | apply Kd.R_drew)); exact HO_32001.out⟩, ⟨by (with_reducible repeat (first | apply Kd.R_alloc | apply Kd.R_drewN | apply Kd.R_drew)); exact HO_32002.out⟩, ⟨by (with_reducible repeat (first | apply Kd.R_alloc | apply Kd.R_drewN | apply Kd.R_drew)); exact HO_61000.out⟩, ⟨by (with_reducible repeat (first | apply Kd.R_alloc | apply Kd.R_drewN | apply Kd.R_drew)); exact HO_61001.out⟩, ⟨by (with_reducible repeat (first | apply Kd.R_alloc | apply Kd.R_drewN | apply Kd.R_drew)); exact HO_61002.out⟩, ⟨kM BK11.out⟩, ⟨kM BK31.out⟩, ⟨kM BK60.out⟩, ⟨by repeat ((with_reducible first | exact HB.out ))⟩⟩
                       ·rw [if_neg c117] at H
                        exact absurd H (by simp)
                      ·rw [if_neg c116] at H
                       exact absurd H (by simp)
                     ·rw [if_neg c115] at H
                      exact absurd H (by simp)
                    ·rw [if_neg c114] at H
                     exact absurd H (by simp)
                   ·rw [if_neg c113] at H
                    exact absurd H (by simp)
                  ·rw [if_neg c112] at H
                   exact absurd H (by simp)
                 ·rw [if_neg c111] at H
                  have c111b0 : decide (x20_5 < (t32.length : Int)) = false := decide_eq_false c111
                  clear c111
                  obtain rfl := Option.some.inj H
                  go_wp2
                  go_ret
                  exact ⟨by rfl, by repeat ((with_reducible first | exact HB.out ))⟩
     ·rw [if_neg c24] at H
      exact absurd H (by simp)
    ·rw [if_neg c23] at H
     exact absurd H (by simp)

end Go.Proofs.Ytkidnomkfdnciaa.All
