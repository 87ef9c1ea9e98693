/- Functions of the program as plain Lean functions, and proofs that the calls do what these say; written for this claim by a program of the session (wip/tools/mkprint.py), checked by Lean. -/
import Derived.Test.YtkidnomkfdnciaaAllx0
import Derived.Test.YtkidnomkfdnciaaBk
import Derived.Test.YtkidnomkfdnciaaMv
import Derived.Test.YtkidnomkfdnciaaAllx1
import Derived.Test.YtkidnomkfdnciaaAllx9
import Derived.Test.YtkidnomkfdnciaaAllx10
import Derived.Test.YtkidnomkfdnciaaAllx24
import Derived.Test.YtkidnomkfdnciaaAllx50
import Derived.Test.YtkidnomkfdnciaaAllx51
import Derived.Test.YtkidnomkfdnciaaAllx56
namespace Go.Proofs.Ytkidnomkfdnciaa.All
open Go.RowKit Go.Proofs.YtkidnomkfdnciaaW.PrintWords Go.Proofs.YtkidnomkfdnciaaW.PrintLast Go.Proofs.YtkidnomkfdnciaaW.PrintMore
attribute [local go_sem] max2_int min2_int max_two min_two max_three min_three max_four min_four   -- for this text's walks alone
set_option linter.unusedVariables false
set_option linter.unusedSimpArgs false

attribute [local go_sem high] eqA48
/-! ### roadbooklaw20_CallsKeep: function 17 -/
mutual
def roadbooklaw20_CallsKeep.j0 : Nat → List (List (S76)) → List Int → Int → Int → Bool → Bool → List (S48) → List Int → List Int → Option (Bool)
 | 0, _, _, _, _, _, _, _, _, _ => none
 | k + 1, x1, x2, x3, x4, x11, x39, x12000, x12001, x12002 => if x39 = true then (some x11) else ((calls_Run.f k x12000 x12001 x12002 x1 x2).bind fun bt16 => (if (bt16.1.length : Int) < (x12000.length : Int) then (roadbooklaw20_CallsKeep.j1 k x3 x4 bt16.2.2.2.1 true x12000 x12001 x12002 bt16.1 bt16.2.1 bt16.2.2.1) else (if (bt16.2.2.1.length : Int) < (x12002.length : Int) then (roadbooklaw20_CallsKeep.j1 k x3 x4 bt16.2.2.2.1 true x12000 x12001 x12002 bt16.1 bt16.2.1 bt16.2.2.1) else ((memo_May.f bt16.1 bt16.2.1 bt16.2.2.1).bind fun t32 => (roadbooklaw20_CallsKeep.j1 k x3 x4 bt16.2.2.2.1 (!t32) x12000 x12001 x12002 bt16.1 bt16.2.1 bt16.2.2.1)))))
def roadbooklaw20_CallsKeep.j1 : Nat → Int → Int → List (List (S73)) → Bool → List (S48) → List Int → List Int → List (S48) → List Int → List Int → Option (Bool)
 | 0, _, _, _, _, _, _, _, _, _, _ => none
 | k + 1, x3, x4, x14, x69, x12000, x12001, x12002, x32000, x32001, x32002 => if x69 = true then (some false) else (roadbooklaw20_CallsKeep.l0 k x3 x4 x14 0 x12000 x12001 x12002 x32000 x32001 x32002)
def roadbooklaw20_CallsKeep.l0 : Nat → Int → Int → List (List (S73)) → Int → List (S48) → List Int → List Int → List (S48) → List Int → List Int → Option (Bool)
 | 0, _, _, _, _, _, _, _, _, _, _ => none
 | k + 1, x3, x4, x14, x16, x12000, x12001, x12002, x32000, x32001, x32002 => if x16 < (x12000.length : Int) then (if 0 ≤ x16 then (if x16 < (x32000.length : Int) then (if (!(((rd_T48 x32000 x16).f0) == ((rd_T48 x12000 x16).f0)) || (!(((rd_T48 x32000 x16).f1) == ((rd_T48 x12000 x16).f1)) || (!(((rd_T48 x32000 x16).f2) == ((rd_T48 x12000 x16).f2)) || (!(((rd_T48 x32000 x16).f3) == ((rd_T48 x12000 x16).f3)))))) = true then (some false) else (if x16 < (x32001.length : Int) then (if x16 < (x12001.length : Int) then (if (rd x32001 x16) = (rd x12001 x16) then (roadbooklaw20_CallsKeep.l0 k x3 x4 x14 (wrap64 (x16 + 1)) x12000 x12001 x12002 x32000 x32001 x32002) else (some false)) else (none)) else (none))) else (none)) else (none)) else (roadbooklaw20_CallsKeep.l1 k x3 x4 x14 0 x12000 x12001 x12002 x32000 x32001 x32002)
def roadbooklaw20_CallsKeep.l1 : Nat → Int → Int → List (List (S73)) → Int → List (S48) → List Int → List Int → List (S48) → List Int → List Int → Option (Bool)
 | 0, _, _, _, _, _, _, _, _, _, _ => none
 | k + 1, x3, x4, x14, x17, x12000, x12001, x12002, x32000, x32001, x32002 => if x17 < (x14.length : Int) then (roadbooklaw20_CallsKeep.l2 k x3 x4 x14 x17 0 x12000 x12001 x12002 x32000 x32001 x32002) else ((memo_Find.f k x12000 x12001 x12002 x3).bind fun t42 => (if t42 < 0 then (some true) else ((memo_Find.f k x12000 x12001 x12002 x3).bind fun t43 => ((memo_Find.f k x12000 x12001 x12002 x4).bind fun t44 => (if t43 = t44 then ((memo_Find.f k x32000 x32001 x32002 x3).bind fun t45 => ((memo_Find.f k x32000 x32001 x32002 x4).bind fun t46 => (some (t45 == t46)))) else (some true))))))
def roadbooklaw20_CallsKeep.l2 : Nat → Int → Int → List (List (S73)) → Int → Int → List (S48) → List Int → List Int → List (S48) → List Int → List Int → Option (Bool)
 | 0, _, _, _, _, _, _, _, _, _, _, _ => none
 | k + 1, x3, x4, x14, x17, x18, x12000, x12001, x12002, x32000, x32001, x32002 => if 0 ≤ x17 then (if x17 < (x14.length : Int) then (if x18 < ((rd_L6 x14 x17).length : Int) then (if 0 ≤ x18 then (if ((rd_T73 (rd_L6 x14 x17) x18).f1) = 0 then ((memo_Find.f k x32000 x32001 x32002 ((rd_T73 (rd_L6 x14 x17) x18).f0)).bind fun t41 => (if t41 < 0 then (some false) else (roadbooklaw20_CallsKeep.l2 k x3 x4 x14 x17 (wrap64 (x18 + 1)) x12000 x12001 x12002 x32000 x32001 x32002))) else (if ((rd_T73 (rd_L6 x14 x17) x18).f0) = (-1) then (roadbooklaw20_CallsKeep.l2 k x3 x4 x14 x17 (wrap64 (x18 + 1)) x12000 x12001 x12002 x32000 x32001 x32002) else (some false))) else (none)) else (roadbooklaw20_CallsKeep.l1 k x3 x4 x14 (wrap64 (x17 + 1)) x12000 x12001 x12002 x32000 x32001 x32002)) else (none)) else (none)
end
def roadbooklaw20_CallsKeep.f (k : Nat) (l0_0 : List (S48)) (l0_1 : List Int) (l0_2 : List Int) (l1 : List (List (S76))) (l2 : List Int) (a3 : Int) (a4 : Int) : Option (Bool) := (roadbooklaw20_awake.f k).bind fun t12 => ((roadbooklaw20_few.f k l1 l2).bind fun t13 => (if t12 = true then (if t13 = true then ((roadbooklaw16_Far.f l0_0 l0_1 l0_2 20).bind fun t14 => (if t14 = 0 then ((memo_May.f l0_0 l0_1 l0_2).bind fun t15 => (roadbooklaw20_CallsKeep.j0 k l1 l2 a3 a4 t12 (!t15) l0_0 l0_1 l0_2)) else (roadbooklaw20_CallsKeep.j0 k l1 l2 a3 a4 t12 true l0_0 l0_1 l0_2))) else (roadbooklaw20_CallsKeep.j0 k l1 l2 a3 a4 t12 true l0_0 l0_1 l0_2)) else (roadbooklaw20_CallsKeep.j0 k l1 l2 a3 a4 t12 true l0_0 l0_1 l0_2)))
def roadbooklaw20_CallsKeep.T11 : Bool × List (List Nat × List Nat) := (true, [([], []), ([0], [0]), ([], []), ([1, 2], [1, 2]), ([3], [3]), ([], []), ([5], [5]), ([], []), ([6, 7], [6, 7]), ([8], [8]), ([4, 9], [4, 9]), ([10], [10]), ([11], [11]), ([12, 11], [11, 12]), ([11], [11]), ([13, 14, 11], [11, 13, 14]), ([15, 11], [11, 15]), ([11], [11]), ([17, 11], [11, 17]), ([11], [11]), ([18, 19, 11], [11, 18, 19]), ([20, 11], [11, 20]), ([16, 21, 11], [11, 16, 21]), ([11, 22], [11, 22])])
def roadbooklaw20_CallsKeep.B11 : List Nat := [0, 1, 0, 7, 15, 0, 32, 0, 224, 480, 1023, 2047, 4095, 8191, 4095, 32767, 65535, 4095, 135167, 4095, 921599, 1970175, 4194303, 8388607]
theorem roadbooklaw20_CallsKeep.tab11 : rtab .any (opsOf Try.f17 11) = roadbooklaw20_CallsKeep.T11 := by kernel_rfl
theorem roadbooklaw20_CallsKeep.bits11 : waitsOk roadbooklaw20_CallsKeep.T11.2 roadbooklaw20_CallsKeep.B11 = true := by kernel_rfl
def roadbooklaw20_CallsKeep.T22 : Bool × List (List Nat × List Nat) := (true, [([], []), ([], []), ([0, 1], [0, 1]), ([2], [2]), ([3, 2], [3]), ([4], [4]), ([4], [4]), ([5, 6, 4, 4], [4, 5, 6]), ([4], [4]), ([4], [4]), ([8, 9, 7, 4], [4, 8, 9]), ([7, 10, 4], [4, 7, 10]), ([4, 11], [4, 11]), ([12, 10], [12]), ([13], [13]), ([13], [13]), ([14, 15, 13, 13], [13, 14, 15]), ([13], [13]), ([13], [13]), ([17, 18, 16, 13], [13, 17, 18]), ([16, 19, 13], [13, 16, 19]), ([13, 20], [13, 20]), ([21, 19, 0, 1, 2, 3, 4, 5, 6, 7, 8, 9, 10, 11, 12, 13, 14, 15, 16, 17, 18, 19, 20, 21], [21])])
def roadbooklaw20_CallsKeep.B22 : List Nat := [0, 0, 3, 7, 15, 31, 31, 127, 31, 31, 1023, 2047, 4095, 8191, 16383, 16383, 65535, 16383, 16383, 524287, 1048575, 2097151, 4194303]
theorem roadbooklaw20_CallsKeep.tab22 : rtab .any (opsOf Try.f17 22) = roadbooklaw20_CallsKeep.T22 := by kernel_rfl
theorem roadbooklaw20_CallsKeep.bits22 : waitsOk roadbooklaw20_CallsKeep.T22.2 roadbooklaw20_CallsKeep.B22 = true := by kernel_rfl
set_option maxHeartbeats 8000000 in
set_option maxRecDepth 100000 in
theorem roadbooklaw20_CallsKeep.calls (k : Nat) (A0_0 : Option Addr) (c0_0 : Nat) (l0_0 : List (S48)) (A0_1 : Option Addr) (c0_1 : Nat) (l0_1 : List Int) (A0_2 : Option Addr) (c0_2 : Nat) (l0_2 : List Int) (A1 : Option Addr) (c1 : Nat) (l1 : List (List (S76))) (A2 : Option Addr) (c2 : Nat) (l2 : List Int) (a3 : Int) (a4 : Int) (r : Bool) (w : World) (hr0_0 : Kd.C k48 w A0_0 l0_0.length l0_0) (hc0_0 : l0_0.length ≤ c0_0) (hr0_1 : Kd.C (Kd.int .i64) w A0_1 l0_1.length l0_1) (hc0_1 : l0_1.length ≤ c0_1) (hr0_2 : Kd.C (Kd.int .i64) w A0_2 l0_2.length l0_2) (hc0_2 : l0_2.length ≤ c0_2) (hr1 : Kd.C (Kd.slice 76 k76) w A1 l1.length l1) (hc1 : l1.length ≤ c1) (hr2 : Kd.C (Kd.int .i64) w A2 l2.length l2) (hc2 : l2.length ≤ c2) (hrt : r = true) (h : roadbooklaw20_CallsKeep.f k l0_0 l0_1 l0_2 l1 l2 a3 a4 = some r) :
  Calls Try.prog 17 #[.agg #[.slice A0_0 l0_0.length c0_0, .slice A0_1 l0_1.length c0_1, .slice A0_2 l0_2.length c0_2], .slice A1 l1.length c1, .slice A2 l2.length c2, .int .i64 a3, .int .i64 a4] w fun e w' => e = .returned (.bool r) ∧ Below w.heap.size w w' := by
 have HRT := Aside0.mk hrt
 clear hrt
 have hu38 := Try.underlying38
 have hu48 := Try.underlying48
 have hu73 := Try.underlying73
 have HR0_0 := Aside0.mk hr0_0
 have HC0_0 := Aside0.mk hc0_0
 clear hr0_0 hc0_0
 have HR0_1 := Aside0.mk hr0_1
 have HC0_1 := Aside0.mk hc0_1
 clear hr0_1 hc0_1
 have HR0_2 := Aside0.mk hr0_2
 have HC0_2 := Aside0.mk hc0_2
 clear hr0_2 hc0_2
 have HR1 := Aside0.mk hr1
 have HC1 := Aside0.mk hc1
 clear hr1 hc1
 have HR2 := Aside0.mk hr2
 have HC2 := Aside0.mk hc2
 clear hr2 hc2
 have HB := Aside0.mk (Below.refl w.heap.size w)
 have H : ((roadbooklaw20_awake.f k).bind fun t12 => ((roadbooklaw20_few.f k l1 l2).bind fun t13 => (if t12 = true then (if t13 = true then ((roadbooklaw16_Far.f l0_0 l0_1 l0_2 20).bind fun t14 => (if t14 = 0 then ((memo_May.f l0_0 l0_1 l0_2).bind fun t15 => (roadbooklaw20_CallsKeep.j0 k l1 l2 a3 a4 t12 (!t15) l0_0 l0_1 l0_2)) else (roadbooklaw20_CallsKeep.j0 k l1 l2 a3 a4 t12 true l0_0 l0_1 l0_2))) else (roadbooklaw20_CallsKeep.j0 k l1 l2 a3 a4 t12 true l0_0 l0_1 l0_2)) else (roadbooklaw20_CallsKeep.j0 k l1 l2 a3 a4 t12 true l0_0 l0_1 l0_2)))) = some r := h
 clear h
 replace H := Option.bind_eq_some_iff.mp H
 obtain ⟨t12, A60, H⟩ := H
 have A6 := Aside0.mk A60
 clear A60
 replace H := Option.bind_eq_some_iff.mp H
 obtain ⟨t13, A70, H⟩ := H
 have A7 := Aside0.mk A70
 clear A70
 have HC8 := Aside0.mk H
 clear H
 go_enter Try.func17, Try.ntmps17
 go_upto_region 3 with (first | ((with_reducible refine gate_dst (N := 5) rfl ?_); (try (refine gate_guard (by rfl) ?_; dsimp only)); refine box_event ?hg (N := 5) ?hd (cs := #[.slice A0_0 l0_0.length c0_0, .slice A0_1 l0_1.length c0_1, .slice A0_2 l0_2.length c0_2]) (t := 38) ?hr ?_; (case hd => rfl); (case hg => rfl); (case hr => first | (go_simp; done) ); intro gb11 hg w9 hbox hb; have BK11 := Aside0.mk (hbox); have GW11 := Aside0.mk ((by rw [hg]; exact (below_size (by exact wM HB.out)) : w.heap.size ≤ gb11)); have GE11 := Aside0.mk ((by rw [hg]; exact (below_size (by exact wM HB.out)) : w.heap.size ≤ gb11)); replace HB := Aside0.mk (below_step (by exact wM HB.out) hb); clear hb hbox hg) | ((with_reducible refine gate_callee (f := 56) rfl ?_); refine goesL_ (some 20) rfl rfl Try.func56 (by kernel_rfl) rfl #[] rfl (by (try simp only [List.map_toArray, List.map_cons, List.map_nil]); first | done ) ?_; (with_reducible refine (roadbooklaw20_awake.calls k  t12 _ A6.out).mono ?_); rintro e w10 ⟨rfl, hb⟩; refine ⟨_, rfl, ?_⟩; replace BK11 := Aside0.mk (blk_below (kM BK11.out) hb); replace HB := Aside0.mk (below_step (by exact wM HB.out) hb); (try clear hb); ) | ((with_reducible refine gate_callee (f := 57) rfl ?_); refine goesL_ (some 23) rfl rfl Try.func57 (by kernel_rfl) rfl #[.slice A1 l1.length c1, .slice A2 l2.length c2] rfl (by (try simp only [List.map_toArray, List.map_cons, List.map_nil]); first | rfl ) ?_; (with_reducible refine (roadbooklaw20_few.calls k _ _ l1 _ _ l2 t13 _ ?side1 ?side2 ?side3 ?side4 A7.out).mono ?_); (case side1 => exact cM (Kd.C_below HR1.out HB.out)); (case side2 => exact HC1.out); (case side3 => exact cM (Kd.C_below HR2.out HB.out)); (case side4 => exact HC2.out); rintro e w' ⟨rfl, ⟨nd, rfl⟩⟩; refine ⟨_, rfl, ?_⟩))
 (try simp only [Act.put, List.setIfInBounds_toArray, List.set_cons_zero, List.set_cons_succ])
 go_cut [39] (fun v39 wc => ∃ (kq : Nat) (x39_7 : Bool), v39 = .bool x39_7 ∧ Aside0 (roadbooklaw20_CallsKeep.j0 kq l1 l2 a3 a4 t12 x39_7 l0_0 l0_1 l0_2 = some r) ∧ Aside0 (kq ≤ k) ∧ Aside0 (wc.heap[gb11]? = some (.cells #[(.slice A0_0 l0_0.length c0_0), (.slice A0_1 l0_1.length c0_1), (.slice A0_2 l0_2.length c0_2)] 38 (0, 0))) ∧ Aside0 (Below w.heap.size w wc))
 case first =>
  have H := HC8.out
  clear HC8
  by_cases c11 : t12 = true
  ·subst c11
   rw [if_pos rfl] at H
   by_cases c12 : t13 = true
   ·subst c12
    rw [if_pos rfl] at H
    replace H := Option.bind_eq_some_iff.mp H
    obtain ⟨t14, A130, H⟩ := H
    have A13 := Aside0.mk A130
    clear A130
    by_cases c14 : t14 = 0
    ·rw [if_pos c14] at H
     have c14b0 : (t14 == 0) = true := beq_iff_eq.mpr c14
     have c14b1 : (t14 != 0) = false := bne_eq_false_iff_eq.mpr c14
     clear c14
     (skip)
     replace H := Option.bind_eq_some_iff.mp H
     obtain ⟨t15, A150, H⟩ := H
     have A15 := Aside0.mk A150
     clear A150
     have H' := Aside0.mk H
     clear H
     obtain ⟨hcz16_0, hcz16_1, hcz16_2, hfz16_0, hfz16_1, hfz16_2⟩ := bk3 BK11.out
     go_wp2_with (first | (go_at_call 58; (with_reducible refine (roadbooklaw16_Far.calls _ _ l0_0 _ _ l0_1 _ _ l0_2 20 t14 _ ?side1 ?side2 ?side3 ?side4 ?side5 ?side6 A13.out).mono ?_); (case side1 => exact cM (Kd.C_below HR0_0.out HB.out)); (case side2 => exact HC0_0.out); (case side3 => exact cM (Kd.C_below HR0_1.out HB.out)); (case side4 => exact HC0_1.out); (case side5 => exact cM (Kd.C_below HR0_2.out HB.out)); (case side6 => exact HC0_2.out); rintro e w17 ⟨rfl, hb⟩; replace BK11 := Aside0.mk (blk_below (kM BK11.out) hb); replace HB := Aside0.mk (below_step (by exact wM HB.out) hb); (try clear hb); obtain ⟨hcz18_0, hcz18_1, hcz18_2, hfz18_0, hfz18_1, hfz18_2⟩ := bk3 BK11.out) | (go_at_call 41; (with_reducible refine (memo_May.calls _ _ l0_0 _ _ l0_1 _ _ l0_2 t15 _ ?side1 ?side2 ?side3 ?side4 ?side5 ?side6 A15.out).mono ?_); (case side1 => exact cM (Kd.C_below HR0_0.out HB.out)); (case side2 => exact HC0_0.out); (case side3 => exact cM (Kd.C_below HR0_1.out HB.out)); (case side4 => exact HC0_1.out); (case side5 => exact cM (Kd.C_below HR0_2.out HB.out)); (case side6 => exact HC0_2.out); rintro e w19 ⟨rfl, hb⟩; replace BK11 := Aside0.mk (blk_below (kM BK11.out) hb); replace HB := Aside0.mk (below_step (by exact wM HB.out) hb); (try clear hb); ))
     go_meet
     case rel => exact ⟨_, (!t15), (by rfl), H', ⟨by omega⟩, ⟨kM BK11.out⟩, ⟨by repeat ((with_reducible first | exact HB.out ))⟩⟩
    ·rw [if_neg c14] at H
     have c14b0 : (t14 == 0) = false := beq_eq_false_iff_ne.mpr c14
     have c14b1 : (t14 != 0) = true := bne_iff_ne.mpr c14
     (skip)
     have H' := Aside0.mk H
     clear H
     obtain ⟨hcz20_0, hcz20_1, hcz20_2, hfz20_0, hfz20_1, hfz20_2⟩ := bk3 BK11.out
     go_wp2_with ((go_at_call 58; (with_reducible refine (roadbooklaw16_Far.calls _ _ l0_0 _ _ l0_1 _ _ l0_2 20 t14 _ ?side1 ?side2 ?side3 ?side4 ?side5 ?side6 A13.out).mono ?_); (case side1 => exact cM (Kd.C_below HR0_0.out HB.out)); (case side2 => exact HC0_0.out); (case side3 => exact cM (Kd.C_below HR0_1.out HB.out)); (case side4 => exact HC0_1.out); (case side5 => exact cM (Kd.C_below HR0_2.out HB.out)); (case side6 => exact HC0_2.out); rintro e w21 ⟨rfl, hb⟩; replace BK11 := Aside0.mk (blk_below (kM BK11.out) hb); replace HB := Aside0.mk (below_step (by exact wM HB.out) hb); (try clear hb); ))
     go_meet
     case rel => exact ⟨_, (true), (by rfl), H', ⟨by omega⟩, ⟨kM BK11.out⟩, ⟨by repeat ((with_reducible first | exact HB.out ))⟩⟩
   ·replace c12 := Bool.eq_false_iff.mpr c12
    subst c12
    rw [if_neg (show ¬ (false = true) by decide)] at H
    have H' := Aside0.mk H
    clear H
    go_wp2
    go_meet
    case rel => exact ⟨_, (true), (by rfl), H', ⟨by omega⟩, ⟨kM BK11.out⟩, ⟨by repeat ((with_reducible first | exact HB.out | apply pw_below_drewN ))⟩⟩
  ·replace c11 := Bool.eq_false_iff.mpr c11
   subst c11
   rw [if_neg (show ¬ (false = true) by decide)] at H
   have H' := Aside0.mk H
   clear H
   go_wp2
   go_meet
   case rel => exact ⟨_, (true), (by rfl), H', ⟨by omega⟩, ⟨kM BK11.out⟩, ⟨by repeat ((with_reducible first | exact HB.out | apply pw_below_drewN ))⟩⟩
 case rest =>
  clear HC8
  obtain ⟨kq, x39_7, rfl, HA, HJ7, BK11, HB⟩ := hcut
  cases kq with
  | zero => exact absurd HA.out (by simp [roadbooklaw20_CallsKeep.j0])
  | succ kj7 =>
   have H := HA.out
   clear HA
   simp only [roadbooklaw20_CallsKeep.j0] at H
   by_cases c22 : x39_7 = true
   ·subst c22
    rw [if_pos rfl] at H
    obtain rfl := Option.some.inj H
    go_wp2
    go_ret
    exact ⟨by rfl, by repeat ((with_reducible first | exact HB.out ))⟩
   ·replace c22 := Bool.eq_false_iff.mpr c22
    subst c22
    rw [if_neg (show ¬ (false = true) by decide)] at H
    replace H := Option.bind_eq_some_iff.mp H
    obtain ⟨⟨t16, t19, t22, t25, t28⟩, A230, H⟩ := H
    replace H : (if (t16.length : Int) < (l0_0.length : Int) then (roadbooklaw20_CallsKeep.j1 kj7 a3 a4 t25 true l0_0 l0_1 l0_2 t16 t19 t22) else (if (t22.length : Int) < (l0_2.length : Int) then (roadbooklaw20_CallsKeep.j1 kj7 a3 a4 t25 true l0_0 l0_1 l0_2 t16 t19 t22) else ((memo_May.f t16 t19 t22).bind fun t32 => (roadbooklaw20_CallsKeep.j1 kj7 a3 a4 t25 (!t32) l0_0 l0_1 l0_2 t16 t19 t22)))) = some r := H
    have A23 := Aside0.mk A230
    clear A230
    have HC24 := Aside0.mk H
    clear H
    obtain ⟨hcz25_0, hcz25_1, hcz25_2, hfz25_0, hfz25_1, hfz25_2⟩ := bk3 BK11.out
    go_upto_region 6 with (first | ((with_reducible refine gate_callee (f := 59) rfl ?_); refine goesL_ (some 45) rfl rfl Try.func59 (by kernel_rfl) rfl #[.agg #[.slice A0_0 l0_0.length c0_0, .slice A0_1 l0_1.length c0_1, .slice A0_2 l0_2.length c0_2], .slice A1 l1.length c1, .slice A2 l2.length c2] rfl (by (try simp only [List.map_toArray, List.map_cons, List.map_nil]); first | rfl ) ?_; (with_reducible refine (calls_Run.calls kj7 _ _ l0_0 _ _ l0_1 _ _ l0_2 _ _ l1 _ _ l2 t16 t19 t22 t25 t28 _ ?side1 ?side2 ?side3 ?side4 ?side5 ?side6 ?side7 ?side8 ?side9 ?side10 A23.out).mono ?_); (case side1 => exact cM (Kd.C_below HR0_0.out HB.out)); (case side2 => exact HC0_0.out); (case side3 => exact cM (Kd.C_below HR0_1.out HB.out)); (case side4 => exact HC0_1.out); (case side5 => exact cM (Kd.C_below HR0_2.out HB.out)); (case side6 => exact HC0_2.out); (case side7 => exact cM (Kd.C_below HR1.out HB.out)); (case side8 => exact HC1.out); (case side9 => exact cM (Kd.C_below HR2.out HB.out)); (case side10 => exact HC2.out); rintro e w26 ⟨v17, v20, v23, v26, v29, rfl, ho0, ho1, ho2, ho3, ho4, hb⟩; refine ⟨_, rfl, ?_⟩; have HO18 := Aside0.mk (Kd.R_lower ho0 (below_size (by exact wM HB.out))); have HO21 := Aside0.mk (Kd.R_lower ho1 (below_size (by exact wM HB.out))); have HO24 := Aside0.mk (Kd.R_lower ho2 (below_size (by exact wM HB.out))); have HO27 := Aside0.mk (Kd.S_lower ho3 (below_size (by exact wM HB.out))); have HO30 := Aside0.mk (Kd.R_lower ho4 (below_size (by exact wM HB.out))); replace BK11 := Aside0.mk (blk_below (kM BK11.out) hb); replace HB := Aside0.mk (below_step (by exact wM HB.out) hb); (try clear hb); (try clear ho0); (try clear ho1); (try clear ho2); (try clear ho3); (try clear ho4)) | ((with_reducible refine gate_dst (N := 13) rfl ?_); (try (refine gate_guard (by rfl) ?_; dsimp only)); refine box_event ?hg (N := 13) ?hd (cs := #[.slice none 0 0, .slice none 0 0, .slice none 0 0]) (t := 38) ?hr ?_; (case hd => rfl); (case hg => rfl); (case hr => first | (go_simp; done) ); intro gb31 hg w27 hbox hb; replace HO18 := Aside0.mk (Kd.R_below (rM HO18.out) hb); replace HO21 := Aside0.mk (Kd.R_below (rM HO21.out) hb); replace HO24 := Aside0.mk (Kd.R_below (rM HO24.out) hb); replace HO27 := Aside0.mk (Kd.S_below (sM HO27.out) hb); replace HO30 := Aside0.mk (Kd.R_below (rM HO30.out) hb); have BK31 := Aside0.mk (hbox); have GW31 := Aside0.mk ((by rw [hg]; exact (below_size (by exact wM HB.out)) : w.heap.size ≤ gb31)); have GE31 := Aside0.mk ((by rw [hg]; exact (below_size (by exact wM HB.out)) : w.heap.size ≤ gb31)); replace HB := Aside0.mk (below_step (by exact wM HB.out) hb); have NB11_31 := Aside0.mk ((by rw [hg]; exact Nat.ne_of_lt (blk_lt (kM BK11.out)) : gb11 ≠ gb31)); have NB31_11 := Aside0.mk ((by rw [hg]; exact Nat.ne_of_gt (blk_lt (kM BK11.out)) : gb31 ≠ gb11)); replace BK11 := Aside0.mk (blk_below (kM BK11.out) hb); clear hb hbox hg; obtain ⟨Ao28, co28, eo28⟩ := Kd.R_slice HO18.out; subst eo28; have hnb29 := NB31_11.out; have hnc29 := NB11_31.out; obtain ⟨hcz30_0, hcz30_1, hcz30_2, hfz30_0, hfz30_1, hfz30_2⟩ := bk3 BK31.out; obtain ⟨Ao31, co31, eo31⟩ := Kd.R_slice HO21.out; subst eo31; obtain ⟨Ao32, co32, eo32⟩ := Kd.R_slice HO24.out; subst eo32))
    (try simp only [Act.put, List.setIfInBounds_toArray, List.set_cons_zero, List.set_cons_succ])
    go_cut [69] (fun v69 wc => ∃ (kq : Nat) (x69_23 : Bool), v69 = .bool x69_23 ∧ Aside0 (roadbooklaw20_CallsKeep.j1 kq a3 a4 t25 x69_23 l0_0 l0_1 l0_2 t16 t19 t22 = some r) ∧ Aside0 (kq ≤ kj7) ∧ Aside0 (Kd.S (Kd.slice 73 k73) 71 wc w.heap.size (fun _ => True) v26 t25) ∧ Aside0 (Kd.R k48 48 wc w.heap.size (fun _ => True) (.slice Ao28 t16.length co28) t16) ∧ Aside0 (Kd.R (Kd.int .i64) 3 wc w.heap.size (fun k_ => some k_ ≠ ((.slice Ao32 t22.length co32) : Value).ownBlock) (.slice Ao31 t19.length co31) t19) ∧ Aside0 (Kd.R (Kd.int .i64) 3 wc w.heap.size (fun k_ => some k_ ≠ ((.slice Ao31 t19.length co31) : Value).ownBlock) (.slice Ao32 t22.length co32) t22) ∧ Aside0 (wc.heap[gb11]? = some (.cells #[(.slice A0_0 l0_0.length c0_0), (.slice A0_1 l0_1.length c0_1), (.slice A0_2 l0_2.length c0_2)] 38 (0, 0))) ∧ Aside0 (wc.heap[gb31]? = some (.cells #[(.slice Ao28 t16.length co28), (.slice Ao31 t19.length co31), (.slice Ao32 t22.length co32)] 38 (0, 0))) ∧ Aside0 (Below w.heap.size w wc))
    case first =>
     have H := HC24.out
     clear HC24
     by_cases c33 : (t16.length : Int) < (l0_0.length : Int)
     ·rw [if_pos c33] at H
      have c33b0 : decide ((t16.length : Int) < (l0_0.length : Int)) = true := decide_eq_true c33
      have c33b1 : decide (t16.length < l0_0.length) = true := decide_eq_true (Int.ofNat_lt.mp c33)
      clear c33
      (skip)
      have H' := Aside0.mk H
      clear H
      have hnb34 := NB31_11.out
      have hnc34 := NB11_31.out
      obtain ⟨hcz35_0, hcz35_1, hcz35_2, hfz35_0, hfz35_1, hfz35_2⟩ := bk3 BK31.out
      obtain ⟨hcz36_0, hcz36_1, hcz36_2, hfz36_0, hfz36_1, hfz36_2⟩ := bk3 BK11.out
      go_wp2
      go_meet
      case rel => exact ⟨_, (true), (by rfl), H', ⟨by have := HJ7.out; first | omega ⟩, ⟨by (with_reducible repeat (first | apply Kd.S_alloc | apply Kd.S_drewN | apply Kd.S_drew)); exact Kd.S_mono (Kd.S_far (p := ⟨gb31, 2, none⟩) (Kd.S_far (p := ⟨gb31, 1, none⟩) (Kd.S_far (p := ⟨gb31, 0, none⟩) (Kd.S_types HO27.out BK31.out (by decide)) (fun _ hk => hk.2) (.slice Ao28 t16.length co28)) (fun _ hk => hk.2) (.slice Ao31 t19.length co31)) (fun _ hk => hk.2) (.slice Ao32 t22.length co32)) (fun _ hk => trivial)⟩, ⟨by (with_reducible repeat (first | apply Kd.R_alloc | apply Kd.R_drewN | apply Kd.R_drew)); exact Kd.R_mono (Kd.R_far (p := ⟨gb31, 2, none⟩) (Kd.R_far (p := ⟨gb31, 1, none⟩) (Kd.R_far (p := ⟨gb31, 0, none⟩) (Kd.R_types HO18.out BK31.out (by decide)) (fun _ hk => hk.2) (.slice Ao28 t16.length co28)) (fun _ hk => hk.2) (.slice Ao31 t19.length co31)) (fun _ hk => hk.2) (.slice Ao32 t22.length co32)) (fun _ hk => trivial)⟩, ⟨by (with_reducible repeat (first | apply Kd.R_alloc | apply Kd.R_drewN | apply Kd.R_drew)); exact Kd.R_mono (Kd.R_far (p := ⟨gb31, 2, none⟩) (Kd.R_far (p := ⟨gb31, 1, none⟩) (Kd.R_far (p := ⟨gb31, 0, none⟩) (Kd.R_types HO21.out BK31.out (by decide)) (fun _ hk => hk.2) (.slice Ao28 t16.length co28)) (fun _ hk => hk.2) (.slice Ao31 t19.length co31)) (fun _ hk => hk.2) (.slice Ao32 t22.length co32)) (fun _ hk => hk.1)⟩, ⟨by (with_reducible repeat (first | apply Kd.R_alloc | apply Kd.R_drewN | apply Kd.R_drew)); exact Kd.R_mono (Kd.R_far (p := ⟨gb31, 2, none⟩) (Kd.R_far (p := ⟨gb31, 1, none⟩) (Kd.R_far (p := ⟨gb31, 0, none⟩) (Kd.R_types HO24.out BK31.out (by decide)) (fun _ hk => hk.2) (.slice Ao28 t16.length co28)) (fun _ hk => hk.2) (.slice Ao31 t19.length co31)) (fun _ hk => hk.2) (.slice Ao32 t22.length co32)) (fun _ hk => hk.1)⟩, ⟨by (with_reducible repeat (first | refine blk_drewN ?_ _ | refine blk_drew ?_ | refine blk_alloc ?_ _)); refine blk_far ?_ NB11_31.out _; (with_reducible repeat (first | refine blk_drewN ?_ _ | refine blk_drew ?_ | refine blk_alloc ?_ _)); refine blk_far ?_ NB11_31.out _; (with_reducible repeat (first | refine blk_drewN ?_ _ | refine blk_drew ?_ | refine blk_alloc ?_ _)); refine blk_far ?_ NB11_31.out _; (with_reducible repeat (first | refine blk_drewN ?_ _ | refine blk_drew ?_ | refine blk_alloc ?_ _)); exact BK11.out⟩, ⟨by (with_reducible repeat (first | refine blk_drewN ?_ _ | refine blk_drew ?_ | refine blk_alloc ?_ _)); refine blk_put (cs := #[.slice Ao28 t16.length co28, .slice Ao31 t19.length co31, .slice none 0 0]) ?_ 2 _ rfl; (with_reducible repeat (first | refine blk_drewN ?_ _ | refine blk_drew ?_ | refine blk_alloc ?_ _)); refine blk_put (cs := #[.slice Ao28 t16.length co28, .slice none 0 0, .slice none 0 0]) ?_ 1 _ rfl; (with_reducible repeat (first | refine blk_drewN ?_ _ | refine blk_drew ?_ | refine blk_alloc ?_ _)); refine blk_put (cs := #[.slice none 0 0, .slice none 0 0, .slice none 0 0]) ?_ 0 _ rfl; (with_reducible repeat (first | refine blk_drewN ?_ _ | refine blk_drew ?_ | refine blk_alloc ?_ _)); exact BK31.out⟩, ⟨by repeat ((with_reducible first | exact HB.out | refine below_set ?_ GE31.out))⟩⟩
     ·rw [if_neg c33] at H
      have c33b0 : decide ((t16.length : Int) < (l0_0.length : Int)) = false := decide_eq_false c33
      have c33b1 : decide (t16.length < l0_0.length) = false := decide_eq_false (fun h => c33 (Int.ofNat_lt.mpr h))
      clear c33
      (skip)
      by_cases c37 : (t22.length : Int) < (l0_2.length : Int)
      ·rw [if_pos c37] at H
       have c37b0 : decide ((t22.length : Int) < (l0_2.length : Int)) = true := decide_eq_true c37
       have c37b1 : decide (t22.length < l0_2.length) = true := decide_eq_true (Int.ofNat_lt.mp c37)
       clear c37
       have H' := Aside0.mk H
       clear H
       have hnb38 := NB31_11.out
       have hnc38 := NB11_31.out
       obtain ⟨hcz39_0, hcz39_1, hcz39_2, hfz39_0, hfz39_1, hfz39_2⟩ := bk3 BK31.out
       obtain ⟨hcz40_0, hcz40_1, hcz40_2, hfz40_0, hfz40_1, hfz40_2⟩ := bk3 BK11.out
       go_wp2
       go_meet
       case rel => exact ⟨_, (true), (by rfl), H', ⟨by have := HJ7.out; first | omega ⟩, ⟨by (with_reducible repeat (first | apply Kd.S_alloc | apply Kd.S_drewN | apply Kd.S_drew)); exact Kd.S_mono (Kd.S_far (p := ⟨gb31, 2, none⟩) (Kd.S_far (p := ⟨gb31, 1, none⟩) (Kd.S_far (p := ⟨gb31, 0, none⟩) (Kd.S_types HO27.out BK31.out (by decide)) (fun _ hk => hk.2) (.slice Ao28 t16.length co28)) (fun _ hk => hk.2) (.slice Ao31 t19.length co31)) (fun _ hk => hk.2) (.slice Ao32 t22.length co32)) (fun _ hk => trivial)⟩, ⟨by (with_reducible repeat (first | apply Kd.R_alloc | apply Kd.R_drewN | apply Kd.R_drew)); exact Kd.R_mono (Kd.R_far (p := ⟨gb31, 2, none⟩) (Kd.R_far (p := ⟨gb31, 1, none⟩) (Kd.R_far (p := ⟨gb31, 0, none⟩) (Kd.R_types HO18.out BK31.out (by decide)) (fun _ hk => hk.2) (.slice Ao28 t16.length co28)) (fun _ hk => hk.2) (.slice Ao31 t19.length co31)) (fun _ hk => hk.2) (.slice Ao32 t22.length co32)) (fun _ hk => trivial)⟩, ⟨by (with_reducible repeat (first | apply Kd.R_alloc | apply Kd.R_drewN | apply Kd.R_drew)); exact Kd.R_mono (Kd.R_far (p := ⟨gb31, 2, none⟩) (Kd.R_far (p := ⟨gb31, 1, none⟩) (Kd.R_far (p := ⟨gb31, 0, none⟩) (Kd.R_types HO21.out BK31.out (by decide)) (fun _ hk => hk.2) (.slice Ao28 t16.length co28)) (fun _ hk => hk.2) (.slice Ao31 t19.length co31)) (fun _ hk => hk.2) (.slice Ao32 t22.length co32)) (fun _ hk => hk.1)⟩, ⟨by (with_reducible repeat (first | apply Kd.R_alloc | apply Kd.R_drewN | apply Kd.R_drew)); exact Kd.R_mono (Kd.R_far (p := ⟨gb31, 2, none⟩) (Kd.R_far (p := ⟨gb31, 1, none⟩) (Kd.R_far (p := ⟨gb31, 0, none⟩) (Kd.R_types HO24.out BK31.out (by decide)) (fun _ hk => hk.2) (.slice Ao28 t16.length co28)) (fun _ hk => hk.2) (.slice Ao31 t19.length co31)) (fun _ hk => hk.2) (.slice Ao32 t22.length co32)) (fun _ hk => hk.1)⟩, ⟨by (with_reducible repeat (first | refine blk_drewN ?_ _ | refine blk_drew ?_ | refine blk_alloc ?_ _)); refine blk_far ?_ NB11_31.out _; (with_reducible repeat (first | refine blk_drewN ?_ _ | refine blk_drew ?_ | refine blk_alloc ?_ _)); refine blk_far ?_ NB11_31.out _; (with_reducible repeat (first | refine blk_drewN ?_ _ | refine blk_drew ?_ | refine blk_alloc ?_ _)); refine blk_far ?_ NB11_31.out _; (with_reducible repeat (first | refine blk_drewN ?_ _ | refine blk_drew ?_ | refine blk_alloc ?_ _)); exact BK11.out⟩, ⟨by (with_reducible repeat (first | refine blk_drewN ?_ _ | refine blk_drew ?_ | refine blk_alloc ?_ _)); refine blk_put (cs := #[.slice Ao28 t16.length co28, .slice Ao31 t19.length co31, .slice none 0 0]) ?_ 2 _ rfl; (with_reducible repeat (first | refine blk_drewN ?_ _ | refine blk_drew ?_ | refine blk_alloc ?_ _)); refine blk_put (cs := #[.slice Ao28 t16.length co28, .slice none 0 0, .slice none 0 0]) ?_ 1 _ rfl; (with_reducible repeat (first | refine blk_drewN ?_ _ | refine blk_drew ?_ | refine blk_alloc ?_ _)); refine blk_put (cs := #[.slice none 0 0, .slice none 0 0, .slice none 0 0]) ?_ 0 _ rfl; (with_reducible repeat (first | refine blk_drewN ?_ _ | refine blk_drew ?_ | refine blk_alloc ?_ _)); exact BK31.out⟩, ⟨by repeat ((with_reducible first | exact HB.out | refine below_set ?_ GE31.out))⟩⟩
      ·rw [if_neg c37] at H
       have c37b0 : decide ((t22.length : Int) < (l0_2.length : Int)) = false := decide_eq_false c37
       have c37b1 : decide (t22.length < l0_2.length) = false := decide_eq_false (fun h => c37 (Int.ofNat_lt.mpr h))
       clear c37
       replace H := Option.bind_eq_some_iff.mp H
       obtain ⟨t32, A410, H⟩ := H
       have A41 := Aside0.mk A410
       clear A410
       have H' := Aside0.mk H
       clear H
       have hnb42 := NB31_11.out
       have hnc42 := NB11_31.out
       obtain ⟨hcz43_0, hcz43_1, hcz43_2, hfz43_0, hfz43_1, hfz43_2⟩ := bk3 BK31.out
       obtain ⟨hcz44_0, hcz44_1, hcz44_2, hfz44_0, hfz44_1, hfz44_2⟩ := bk3 BK11.out
       go_wp2_with ((go_at_call 41; (with_reducible refine (memo_May.calls _ _ t16 _ _ t19 _ _ t22 t32 _ ?side1 ?side2 ?side3 ?side4 ?side5 ?side6 A41.out).mono ?_); (case side1 => exact rCF HO18.out BK31.out (by decide)); (case side2 => exact (Kd.R_reads' HO18.out).2.1); (case side3 => exact rCF HO21.out BK31.out (by decide)); (case side4 => exact (Kd.R_reads' HO21.out).2.1); (case side5 => exact rCF HO24.out BK31.out (by decide)); (case side6 => exact (Kd.R_reads' HO24.out).2.1); rintro e w45 ⟨rfl, hb⟩; replace HO18 := Aside0.mk (Kd.R_below (rF HO18.out BK31.out (by decide)) hb); replace HO21 := Aside0.mk (Kd.R_below (rF HO21.out BK31.out (by decide)) hb); replace HO24 := Aside0.mk (Kd.R_below (rF HO24.out BK31.out (by decide)) hb); replace HO27 := Aside0.mk (Kd.S_below (sF HO27.out BK31.out (by decide)) hb); replace HO30 := Aside0.mk (Kd.R_below (rF HO30.out BK31.out (by decide)) hb); replace BK11 := Aside0.mk (blk_below (kF BK11.out NB11_31.out) hb); replace BK31 := Aside0.mk (blk_below (g := gb31) (o := .cells #[.slice Ao28 t16.length co28, .slice Ao31 t19.length co31, .slice Ao32 t22.length co32] 38 (0, 0)) (by (with_reducible repeat (first | refine blk_drewN ?_ _ | refine blk_drew ?_ | refine blk_alloc ?_ _)); exact kP1 BK31.out) hb); replace HB := Aside0.mk (below_step (by exact wF HB.out GE31.out) hb); (try clear hb); ))
       go_meet
       case rel => exact ⟨_, (!t32), (by rfl), H', ⟨by have := HJ7.out; first | omega ⟩, ⟨by (with_reducible repeat (first | apply Kd.S_alloc | apply Kd.S_drewN | apply Kd.S_drew)); exact HO27.out⟩, ⟨by (with_reducible repeat (first | apply Kd.R_alloc | apply Kd.R_drewN | apply Kd.R_drew)); exact HO18.out⟩, ⟨by (with_reducible repeat (first | apply Kd.R_alloc | apply Kd.R_drewN | apply Kd.R_drew)); exact HO21.out⟩, ⟨by (with_reducible repeat (first | apply Kd.R_alloc | apply Kd.R_drewN | apply Kd.R_drew)); exact HO24.out⟩, ⟨kM BK11.out⟩, ⟨kM BK31.out⟩, ⟨by repeat ((with_reducible first | exact HB.out ))⟩⟩
    case rest =>
     clear HC24
     try clear hcz25_0
     try clear hcz25_1
     try clear hcz25_2
     try clear hcz30_0
     try clear hcz30_1
     try clear hcz30_2
     try clear hfz25_0
     try clear hfz25_1
     try clear hfz25_2
     try clear hfz30_0
     try clear hfz30_1
     try clear hfz30_2
     obtain ⟨kq, x69_23, rfl, HA, HJ23, HO_14, HO_32000, HO_32001, HO_32002, BK11, BK31, HB⟩ := hcut
     cases kq with
     | zero => exact absurd HA.out (by simp [roadbooklaw20_CallsKeep.j1])
     | succ kj23 =>
      have H := HA.out
      clear HA
      simp only [roadbooklaw20_CallsKeep.j1] at H
      by_cases c46 : x69_23 = true
      ·subst c46
       rw [if_pos rfl] at H
       exact absurd (HRT.out.symm.trans (Option.some.inj H).symm) (by decide)
      ·replace c46 := Bool.eq_false_iff.mpr c46
       subst c46
       rw [if_neg (show ¬ (false = true) by decide)] at H
       have H' := Aside0.mk H
       clear H
       go_wp2
       go_loopg [16] kj23 (fun kq v16 w' => ∃ (x16_3 : Int), v16 = .int .i64 x16_3 ∧ Aside0 (roadbooklaw20_CallsKeep.l0 kq a3 a4 t25 x16_3 l0_0 l0_1 l0_2 t16 t19 t22 = some r) ∧ Aside0 (kq ≤ kj23) ∧ Aside0 (Kd.S (Kd.slice 73 k73) 71 w' w.heap.size (fun _ => True) v26 t25) ∧ Aside0 (Kd.R k48 48 w' w.heap.size (fun _ => True) (.slice Ao28 t16.length co28) t16) ∧ Aside0 (Kd.R (Kd.int .i64) 3 w' w.heap.size (fun k_ => some k_ ≠ ((.slice Ao32 t22.length co32) : Value).ownBlock) (.slice Ao31 t19.length co31) t19) ∧ Aside0 (Kd.R (Kd.int .i64) 3 w' w.heap.size (fun k_ => some k_ ≠ ((.slice Ao31 t19.length co31) : Value).ownBlock) (.slice Ao32 t22.length co32) t22) ∧ Aside0 (w'.heap[gb11]? = some (.cells #[(.slice A0_0 l0_0.length c0_0), (.slice A0_1 l0_1.length c0_1), (.slice A0_2 l0_2.length c0_2)] 38 (0, 0))) ∧ Aside0 (w'.heap[gb31]? = some (.cells #[(.slice Ao28 t16.length co28), (.slice Ao31 t19.length co31), (.slice Ao32 t22.length co32)] 38 (0, 0))) ∧ Aside0 (Below w.heap.size w w'))
       case atStart => exact ⟨(0), (by rfl), H', ⟨Nat.le_refl _⟩, ⟨by (with_reducible repeat (first | apply Kd.S_alloc | apply Kd.S_drewN | apply Kd.S_drew)); exact HO_14.out⟩, ⟨by (with_reducible repeat (first | apply Kd.R_alloc | apply Kd.R_drewN | apply Kd.R_drew)); exact HO_32000.out⟩, ⟨by (with_reducible repeat (first | apply Kd.R_alloc | apply Kd.R_drewN | apply Kd.R_drew)); exact HO_32001.out⟩, ⟨by (with_reducible repeat (first | apply Kd.R_alloc | apply Kd.R_drewN | apply Kd.R_drew)); exact HO_32002.out⟩, ⟨kM BK11.out⟩, ⟨kM BK31.out⟩, ⟨by repeat ((with_reducible first | exact HB.out ))⟩⟩
       case round =>
        clear H'
        obtain ⟨x16_3, rfl, HA, HK3, HO_14, HO_32000, HO_32001, HO_32002, BK11, BK31, HB⟩ := hrel
        cases gk with
        | zero => exact absurd HA.out (by simp [roadbooklaw20_CallsKeep.l0])
        | succ k3 =>
         have H := HA.out
         clear HA
         simp only [roadbooklaw20_CallsKeep.l0] at H
         by_cases c47 : x16_3 < (l0_0.length : Int)
         ·rw [if_pos c47] at H
          have c47b0 : decide (x16_3 < (l0_0.length : Int)) = true := decide_eq_true c47
          clear c47
          by_cases c48 : 0 ≤ x16_3
          ·rw [if_pos c48] at H
           have c48b0 : decide (0 ≤ x16_3) = true := decide_eq_true c48
           clear c48
           by_cases c49 : x16_3 < (t16.length : Int)
           ·rw [if_pos c49] at H
            have c49b0 : decide (x16_3 < (t16.length : Int)) = true := decide_eq_true c49
            clear c49
            by_cases c50 : (!(((rd_T48 t16 x16_3).f0) == ((rd_T48 l0_0 x16_3).f0)) || (!(((rd_T48 t16 x16_3).f1) == ((rd_T48 l0_0 x16_3).f1)) || (!(((rd_T48 t16 x16_3).f2) == ((rd_T48 l0_0 x16_3).f2)) || (!(((rd_T48 t16 x16_3).f3) == ((rd_T48 l0_0 x16_3).f3)))))) = true
            ·rw [if_pos c50] at H
             have c50b0 : (!(((rd_T48 t16 x16_3).f0) == ((rd_T48 l0_0 x16_3).f0)) || (!(((rd_T48 t16 x16_3).f1) == ((rd_T48 l0_0 x16_3).f1)) || (!(((rd_T48 t16 x16_3).f2) == ((rd_T48 l0_0 x16_3).f2)) || (!(((rd_T48 t16 x16_3).f3) == ((rd_T48 l0_0 x16_3).f3)))))) = true := c50
             clear c50
             exact absurd (HRT.out.symm.trans (Option.some.inj H).symm) (by decide)
            ·rw [if_neg c50] at H
             have c50b0 : (!(((rd_T48 t16 x16_3).f0) == ((rd_T48 l0_0 x16_3).f0)) || (!(((rd_T48 t16 x16_3).f1) == ((rd_T48 l0_0 x16_3).f1)) || (!(((rd_T48 t16 x16_3).f2) == ((rd_T48 l0_0 x16_3).f2)) || (!(((rd_T48 t16 x16_3).f3) == ((rd_T48 l0_0 x16_3).f3)))))) = false := by simpa using c50
             clear c50
             by_cases c51 : x16_3 < (t19.length : Int)
             ·rw [if_pos c51] at H
              have c51b0 : decide (x16_3 < (t19.length : Int)) = true := decide_eq_true c51
              clear c51
              by_cases c52 : x16_3 < (l0_1.length : Int)
              ·rw [if_pos c52] at H
               have c52b0 : decide (x16_3 < (l0_1.length : Int)) = true := decide_eq_true c52
               clear c52
               by_cases c53 : (rd t19 x16_3) = (rd l0_1 x16_3)
               ·rw [if_pos c53] at H
                have c53b0 : ((rd t19 x16_3) == (rd l0_1 x16_3)) = true := beq_iff_eq.mpr c53
                have c53b1 : ((rd t19 x16_3) != (rd l0_1 x16_3)) = false := bne_eq_false_iff_eq.mpr c53
                clear c53
                have H' := Aside0.mk H
                clear H
                have hnb54 := NB11_31.out
                have hnc54 := NB31_11.out
                obtain ⟨hcz55_0, hcz55_1, hcz55_2, hfz55_0, hfz55_1, hfz55_2⟩ := bk3 BK11.out
                try go_wp2
                replace HO_14 := Aside0.mk (Kd.S_drew HO_14.out)
                replace HO_32000 := Aside0.mk (Kd.R_drew HO_32000.out)
                replace HO_32001 := Aside0.mk (Kd.R_drew HO_32001.out)
                replace HO_32002 := Aside0.mk (Kd.R_drew HO_32002.out)
                replace BK11 := Aside0.mk (blk_drew BK11.out)
                replace BK31 := Aside0.mk (blk_drew BK31.out)
                replace HB := Aside0.mk (below_drew1 HB.out)
                have p33 : 0 ≤ (x16_3 : Int) := of_decide_eq_true (by (with_reducible assumption))
                have q33 : x16_3 < (t16.length : Int) := of_decide_eq_true (by (with_reducible assumption))
                obtain ⟨ad33, e33, hx33_0, hx33_1, hx33_2, hx33_3⟩ := at_T48 (Kd.R_reads' HO_32000.out).2.2 x16_3 p33 q33
                cases e33
                replace p33 := eq_true p33
                replace q33 := eq_true q33
                have p34 : 0 ≤ (x16_3 : Int) := of_decide_eq_true (by (with_reducible assumption))
                have q34 : x16_3 < (l0_0.length : Int) := of_decide_eq_true (by (with_reducible assumption))
                obtain ⟨ad34, e34, hx34_0, hx34_1, hx34_2, hx34_3⟩ := at_T48 HR0_0.out x16_3 p34 q34
                have hw34_3 := hx34_3
                have hw34_2 := hx34_2
                have hw34_1 := hx34_1
                have hw34_0 := hx34_0
                cases e34
                replace hx34_0 := (HB.out.cell (World.block_lt_of_cell? w _ hx34_0)).trans hx34_0
                replace hx34_1 := (HB.out.cell (World.block_lt_of_cell? w _ hx34_1)).trans hx34_1
                replace hx34_2 := (HB.out.cell (World.block_lt_of_cell? w _ hx34_2)).trans hx34_2
                replace hx34_3 := (HB.out.cell (World.block_lt_of_cell? w _ hx34_3)).trans hx34_3
                replace p34 := eq_true p34
                replace q34 := eq_true q34
                have p35 : 0 ≤ (x16_3 : Int) := of_decide_eq_true (by (with_reducible assumption))
                have q35 : x16_3 < (t19.length : Int) := of_decide_eq_true (by (with_reducible assumption))
                obtain ⟨ad35, e35, hx35_0⟩ := Kd.at_int (Kd.R_reads' HO_32001.out).2.2 x16_3 p35 q35
                cases e35
                replace p35 := eq_true p35
                replace q35 := eq_true q35
                have p36 : 0 ≤ (x16_3 : Int) := of_decide_eq_true (by (with_reducible assumption))
                have q36 : x16_3 < (l0_1.length : Int) := of_decide_eq_true (by (with_reducible assumption))
                obtain ⟨ad36, e36, hx36_0⟩ := Kd.at_int HR0_1.out x16_3 p36 q36
                have hw36_0 := hx36_0
                cases e36
                replace hx36_0 := (HB.out.cell (World.block_lt_of_cell? w _ hx36_0)).trans hx36_0
                replace p36 := eq_true p36
                replace q36 := eq_true q36
                refine start_ (n := 24) (S := fun w' => w'.cell? ⟨gb31, 0, none⟩ = some (.slice (some ad33) t16.length co28) ∧ w'.cell? ⟨gb31, 1, none⟩ = some (.slice (some ad35) t19.length co31) ∧ w'.cell? ⟨gb31, 2, none⟩ = some (.slice Ao32 t22.length co32) ∧ w'.cell? ⟨gb11, 0, none⟩ = some (.slice (some ad34) l0_0.length c0_0) ∧ w'.cell? ⟨gb11, 1, none⟩ = some (.slice (some ad36) l0_1.length c0_1) ∧ w'.cell? ⟨gb11, 2, none⟩ = some (.slice A0_2 l0_2.length c0_2) ∧ w'.cell? (ad33.add ((x16_3).toNat * 4)) = some (.bool ((rd_T48 t16 x16_3).f0)) ∧ w'.cell? ⟨(ad33.add ((x16_3).toNat * 4)).block, (ad33.add ((x16_3).toNat * 4)).off + 1, none⟩ = some (.int .i64 ((rd_T48 t16 x16_3).f1)) ∧ w'.cell? ⟨(ad33.add ((x16_3).toNat * 4)).block, (ad33.add ((x16_3).toNat * 4)).off + 2, none⟩ = some (.int .i64 ((rd_T48 t16 x16_3).f2)) ∧ w'.cell? ⟨(ad33.add ((x16_3).toNat * 4)).block, (ad33.add ((x16_3).toNat * 4)).off + 3, none⟩ = some (.int .i64 ((rd_T48 t16 x16_3).f3)) ∧ w'.cell? (ad34.add ((x16_3).toNat * 4)) = some (.bool ((rd_T48 l0_0 x16_3).f0)) ∧ w'.cell? ⟨(ad34.add ((x16_3).toNat * 4)).block, (ad34.add ((x16_3).toNat * 4)).off + 1, none⟩ = some (.int .i64 ((rd_T48 l0_0 x16_3).f1)) ∧ w'.cell? ⟨(ad34.add ((x16_3).toNat * 4)).block, (ad34.add ((x16_3).toNat * 4)).off + 2, none⟩ = some (.int .i64 ((rd_T48 l0_0 x16_3).f2)) ∧ w'.cell? ⟨(ad34.add ((x16_3).toNat * 4)).block, (ad34.add ((x16_3).toNat * 4)).off + 3, none⟩ = some (.int .i64 ((rd_T48 l0_0 x16_3).f3)) ∧ w'.cell? (ad35.add (x16_3).toNat) = some (.int .i64 (rd t19 x16_3)) ∧ w'.cell? (ad36.add (x16_3).toNat) = some (.int .i64 (rd l0_1 x16_3))) (ds := []) #[false, false, false, false, false, false, false, false, false, false, false, false, false, false, false, false, false, false, false, false, false, false, false, false] (by kernel_rfl) rfl rfl ⟨(blk_cell BK31.out 0).trans rfl, (blk_cell BK31.out 1).trans rfl, (blk_cell BK31.out 2).trans rfl, (blk_cell BK11.out 0).trans rfl, (blk_cell BK11.out 1).trans rfl, (blk_cell BK11.out 2).trans rfl, hx33_0, hx33_1, hx33_2, hx33_3, ((HB.out.cell (World.block_lt_of_cell? w _ hw34_0)).trans hw34_0), ((HB.out.cell (World.block_lt_of_cell? w _ hw34_1)).trans hw34_1), ((HB.out.cell (World.block_lt_of_cell? w _ hw34_2)).trans hw34_2), ((HB.out.cell (World.block_lt_of_cell? w _ hw34_3)).trans hw34_3), hx35_0, ((HB.out.cell (World.block_lt_of_cell? w _ hw36_0)).trans hw36_0)⟩ (fun hHeld => ?_); refine with_tabW roadbooklaw20_CallsKeep.tab11 roadbooklaw20_CallsKeep.bits11 (fun HT_ HW_ => ?_)
                generalize wr.drew = w56 at HO_14 HO_32000 HO_32001 HO_32002 BK11 BK31 HB hx33_0 hx33_1 hx33_2 hx33_3 hx34_0 hx34_1 hx34_2 hx34_3 hx35_0 hx36_0 hHeld ⊢
                refine pure_ (i := 0) (N := some 77) (v := ?_) (a' := ?_) #[true, false, false, false, false, false, false, false, false, false, false, false, false, false, false, false, false, false, false, false, false, false, false, false] rfl rfl (any_of HT_.out (by kernel_rfl)) (fun _ _ _ h => h) (Or.inl ⟨by rfl, ?_⟩) ?_ ?_
                rotate_left
                ·intro w'
                 go_simp
                 with_reducible rfl
                rotate_left
                ·simp only [Act.put, List.setIfInBounds_toArray, List.set_cons_zero, List.set_cons_succ, i64_w, i32_w]
                 rfl
                refine pure_ (i := 2) (N := some 79) (v := ?_) (a' := ?_) #[true, false, true, false, false, false, false, false, false, false, false, false, false, false, false, false, false, false, false, false, false, false, false, false] rfl rfl (any_of HT_.out (by kernel_rfl)) (fun _ _ _ h => h) (Or.inl ⟨by rfl, ?_⟩) ?_ ?_
                rotate_left
                ·intro w'
                 go_simp
                 with_reducible rfl
                rotate_left
                ·simp only [Act.put, List.setIfInBounds_toArray, List.set_cons_zero, List.set_cons_succ, i64_w, i32_w]
                 rfl
                refine pure_ (i := 5) (N := some 82) (v := ?_) (a' := ?_) #[true, false, true, false, false, true, false, false, false, false, false, false, false, false, false, false, false, false, false, false, false, false, false, false] rfl rfl (any_of HT_.out (by kernel_rfl)) (fun _ _ _ h => h) (Or.inl ⟨by rfl, ?_⟩) ?_ ?_
                rotate_left
                ·intro w'
                 go_simp
                 with_reducible rfl
                rotate_left
                ·simp only [Act.put, List.setIfInBounds_toArray, List.set_cons_zero, List.set_cons_succ, i64_w, i32_w]
                 rfl
                refine pure_ (i := 7) (N := some 84) (v := ?_) (a' := ?_) #[true, false, true, false, false, true, false, true, false, false, false, false, false, false, false, false, false, false, false, false, false, false, false, false] rfl rfl (any_of HT_.out (by kernel_rfl)) (fun _ _ _ h => h) (Or.inl ⟨by rfl, ?_⟩) ?_ ?_
                rotate_left
                ·intro w'
                 go_simp
                 with_reducible rfl
                rotate_left
                ·simp only [Act.put, List.setIfInBounds_toArray, List.set_cons_zero, List.set_cons_succ, i64_w, i32_w]
                 rfl
                refine take_ (i := 1) (N := some 78) (v := ?_) (a' := ?_) #[true, true, true, false, false, true, false, true, false, false, false, false, false, false, false, false, false, false, false, false, false, false, false, false] rfl rfl (take_ofW HT_.out HW_.out (by kernel_rfl)) (fun _ _ _ h => h) (Or.inl ⟨by rfl, ?_⟩) hHeld ?_ ?_
                rotate_left
                ·rintro w' ⟨s0, s1, s2, s3, s4, s5, s6, s7, s8, s9, s10, s11, s12, s13, s14, s15⟩
                 go_simp
                 with_reducible rfl
                rotate_left
                ·simp only [Act.put, List.setIfInBounds_toArray, List.set_cons_zero, List.set_cons_succ, i64_w, i32_w]
                 rfl
                refine pure_ (i := 3) (N := some 80) (v := ?_) (a' := ?_) #[true, true, true, true, false, true, false, true, false, false, false, false, false, false, false, false, false, false, false, false, false, false, false, false] rfl rfl (any_of HT_.out (by kernel_rfl)) (fun _ _ _ h => h) (Or.inl ⟨by rfl, ?_⟩) ?_ ?_
                rotate_left
                ·intro w'
                 go_simp
                 with_reducible rfl
                rotate_left
                ·simp only [Act.put, List.setIfInBounds_toArray, List.set_cons_zero, List.set_cons_succ, i64_w, i32_w]
                 rfl
                refine take_ (i := 4) (N := some 81) (v := ?_) (a' := ?_) #[true, true, true, true, true, true, false, true, false, false, false, false, false, false, false, false, false, false, false, false, false, false, false, false] rfl rfl (take_ofW HT_.out HW_.out (by kernel_rfl)) (fun _ _ _ h => h) (Or.inl ⟨by rfl, ?_⟩) hHeld ?_ ?_
                rotate_left
                ·rintro w' ⟨s0, s1, s2, s3, s4, s5, s6, s7, s8, s9, s10, s11, s12, s13, s14, s15⟩
                 go_simp
                 with_reducible rfl
                rotate_left
                ·simp only [Act.put, List.setIfInBounds_toArray, List.set_cons_zero, List.set_cons_succ, i64_w, i32_w]
                 rfl
                refine take_ (i := 6) (N := some 83) (v := ?_) (a' := ?_) #[true, true, true, true, true, true, true, true, false, false, false, false, false, false, false, false, false, false, false, false, false, false, false, false] rfl rfl (take_ofW HT_.out HW_.out (by kernel_rfl)) (fun _ _ _ h => h) (Or.inl ⟨by rfl, ?_⟩) hHeld ?_ ?_
                rotate_left
                ·rintro w' ⟨s0, s1, s2, s3, s4, s5, s6, s7, s8, s9, s10, s11, s12, s13, s14, s15⟩
                 go_simp
                 with_reducible rfl
                rotate_left
                ·simp only [Act.put, List.setIfInBounds_toArray, List.set_cons_zero, List.set_cons_succ, i64_w, i32_w]
                 rfl
                refine pure_ (i := 8) (N := some 85) (v := ?_) (a' := ?_) #[true, true, true, true, true, true, true, true, true, false, false, false, false, false, false, false, false, false, false, false, false, false, false, false] rfl rfl (any_of HT_.out (by kernel_rfl)) (fun _ _ _ h => h) (Or.inl ⟨by rfl, ?_⟩) ?_ ?_
                rotate_left
                ·intro w'
                 go_simp
                 with_reducible rfl
                rotate_left
                ·simp only [Act.put, List.setIfInBounds_toArray, List.set_cons_zero, List.set_cons_succ, i64_w, i32_w]
                 rfl
                refine take_ (i := 9) (N := some 86) (v := ?_) (a' := ?_) #[true, true, true, true, true, true, true, true, true, true, false, false, false, false, false, false, false, false, false, false, false, false, false, false] rfl rfl (take_ofW HT_.out HW_.out (by kernel_rfl)) (fun _ _ _ h => h) (Or.inl ⟨by rfl, ?_⟩) hHeld ?_ ?_
                rotate_left
                ·rintro w' ⟨s0, s1, s2, s3, s4, s5, s6, s7, s8, s9, s10, s11, s12, s13, s14, s15⟩
                 go_simp
                 with_reducible rfl
                rotate_left
                ·simp only [Act.put, List.setIfInBounds_toArray, List.set_cons_zero, List.set_cons_succ, i64_w, i32_w]
                 rfl
                refine pure_ (i := 10) (N := some 87) (v := ?_) (a' := ?_) #[true, true, true, true, true, true, true, true, true, true, true, false, false, false, false, false, false, false, false, false, false, false, false, false] rfl rfl (any_of HT_.out (by kernel_rfl)) (fun _ _ _ h => h) (Or.inl ⟨by rfl, ?_⟩) ?_ ?_
                rotate_left
                ·intro w'
                 go_simp
                 with_reducible rfl
                rotate_left
                ·simp only [Act.put, List.setIfInBounds_toArray, List.set_cons_zero, List.set_cons_succ, i64_w, i32_w]
                 rfl
                refine pure_ (i := 11) (N := some 88) (v := ?_) (a' := ?_) #[true, true, true, true, true, true, true, true, true, true, true, true, false, false, false, false, false, false, false, false, false, false, false, false] rfl rfl (any_of HT_.out (by kernel_rfl)) (fun _ _ _ h => h) (Or.inl ⟨by rfl, ?_⟩) ?_ ?_
                rotate_left
                ·intro w'
                 go_simp
                 with_reducible rfl
                rotate_left
                ·simp only [Act.put, List.setIfInBounds_toArray, List.set_cons_zero, List.set_cons_succ, i64_w, i32_w]
                 rfl
                refine pure_ (i := 12) (N := some 89) (v := ?_) (a' := ?_) #[true, true, true, true, true, true, true, true, true, true, true, true, true, false, false, false, false, false, false, false, false, false, false, false] rfl rfl (any_of HT_.out (by kernel_rfl)) (fun _ _ _ h => h) (Or.inl ⟨by rfl, ?_⟩) ?_ ?_
                rotate_left
                ·intro w'
                 go_simp
                 with_reducible rfl
                rotate_left
                ·simp only [Act.put, List.setIfInBounds_toArray, List.set_cons_zero, List.set_cons_succ, i64_w, i32_w]
                 rfl
                refine pure_ (i := 14) (N := some 91) (v := ?_) (a' := ?_) #[true, true, true, true, true, true, true, true, true, true, true, true, true, false, true, false, false, false, false, false, false, false, false, false] rfl rfl (any_of HT_.out (by kernel_rfl)) (fun _ _ _ h => h) (Or.inl ⟨by rfl, ?_⟩) ?_ ?_
                rotate_left
                ·intro w'
                 go_simp
                 with_reducible rfl
                rotate_left
                ·simp only [Act.put, List.setIfInBounds_toArray, List.set_cons_zero, List.set_cons_succ, i64_w, i32_w]
                 rfl
                refine pure_ (i := 17) (N := some 94) (v := ?_) (a' := ?_) #[true, true, true, true, true, true, true, true, true, true, true, true, true, false, true, false, false, true, false, false, false, false, false, false] rfl rfl (any_of HT_.out (by kernel_rfl)) (fun _ _ _ h => h) (Or.inl ⟨by rfl, ?_⟩) ?_ ?_
                rotate_left
                ·intro w'
                 go_simp
                 with_reducible rfl
                rotate_left
                ·simp only [Act.put, List.setIfInBounds_toArray, List.set_cons_zero, List.set_cons_succ, i64_w, i32_w]
                 rfl
                refine pure_ (i := 19) (N := some 96) (v := ?_) (a' := ?_) #[true, true, true, true, true, true, true, true, true, true, true, true, true, false, true, false, false, true, false, true, false, false, false, false] rfl rfl (any_of HT_.out (by kernel_rfl)) (fun _ _ _ h => h) (Or.inl ⟨by rfl, ?_⟩) ?_ ?_
                rotate_left
                ·intro w'
                 go_simp
                 with_reducible rfl
                rotate_left
                ·simp only [Act.put, List.setIfInBounds_toArray, List.set_cons_zero, List.set_cons_succ, i64_w, i32_w]
                 rfl
                refine take_ (i := 13) (N := some 90) (v := ?_) (a' := ?_) #[true, true, true, true, true, true, true, true, true, true, true, true, true, true, true, false, false, true, false, true, false, false, false, false] rfl rfl (take_ofW HT_.out HW_.out (by kernel_rfl)) (fun _ _ _ h => h) (Or.inl ⟨by rfl, ?_⟩) hHeld ?_ ?_
                rotate_left
                ·rintro w' ⟨s0, s1, s2, s3, s4, s5, s6, s7, s8, s9, s10, s11, s12, s13, s14, s15⟩
                 go_simp
                 with_reducible rfl
                rotate_left
                ·simp only [Act.put, List.setIfInBounds_toArray, List.set_cons_zero, List.set_cons_succ, i64_w, i32_w]
                 rfl
                refine pure_ (i := 15) (N := some 92) (v := ?_) (a' := ?_) #[true, true, true, true, true, true, true, true, true, true, true, true, true, true, true, true, false, true, false, true, false, false, false, false] rfl rfl (any_of HT_.out (by kernel_rfl)) (fun _ _ _ h => h) (Or.inl ⟨by rfl, ?_⟩) ?_ ?_
                rotate_left
                ·intro w'
                 go_simp
                 with_reducible rfl
                rotate_left
                ·simp only [Act.put, List.setIfInBounds_toArray, List.set_cons_zero, List.set_cons_succ, i64_w, i32_w]
                 rfl
                refine take_ (i := 16) (N := some 93) (v := ?_) (a' := ?_) #[true, true, true, true, true, true, true, true, true, true, true, true, true, true, true, true, true, true, false, true, false, false, false, false] rfl rfl (take_ofW HT_.out HW_.out (by kernel_rfl)) (fun _ _ _ h => h) (Or.inl ⟨by rfl, ?_⟩) hHeld ?_ ?_
                rotate_left
                ·rintro w' ⟨s0, s1, s2, s3, s4, s5, s6, s7, s8, s9, s10, s11, s12, s13, s14, s15⟩
                 go_simp
                 with_reducible rfl
                rotate_left
                ·simp only [Act.put, List.setIfInBounds_toArray, List.set_cons_zero, List.set_cons_succ, i64_w, i32_w]
                 rfl
                refine take_ (i := 18) (N := some 95) (v := ?_) (a' := ?_) #[true, true, true, true, true, true, true, true, true, true, true, true, true, true, true, true, true, true, true, true, false, false, false, false] rfl rfl (take_ofW HT_.out HW_.out (by kernel_rfl)) (fun _ _ _ h => h) (Or.inl ⟨by rfl, ?_⟩) hHeld ?_ ?_
                rotate_left
                ·rintro w' ⟨s0, s1, s2, s3, s4, s5, s6, s7, s8, s9, s10, s11, s12, s13, s14, s15⟩
                 go_simp
                 with_reducible rfl
                rotate_left
                ·simp only [Act.put, List.setIfInBounds_toArray, List.set_cons_zero, List.set_cons_succ, i64_w, i32_w]
                 rfl
                refine pure_ (i := 20) (N := some 97) (v := ?_) (a' := ?_) #[true, true, true, true, true, true, true, true, true, true, true, true, true, true, true, true, true, true, true, true, true, false, false, false] rfl rfl (any_of HT_.out (by kernel_rfl)) (fun _ _ _ h => h) (Or.inl ⟨by rfl, ?_⟩) ?_ ?_
                rotate_left
                ·intro w'
                 go_simp
                 with_reducible rfl
                rotate_left
                ·simp only [Act.put, List.setIfInBounds_toArray, List.set_cons_zero, List.set_cons_succ, i64_w, i32_w]
                 rfl
                refine take_ (i := 21) (N := some 98) (v := ?_) (a' := ?_) #[true, true, true, true, true, true, true, true, true, true, true, true, true, true, true, true, true, true, true, true, true, true, false, false] rfl rfl (take_ofW HT_.out HW_.out (by kernel_rfl)) (fun _ _ _ h => h) (Or.inl ⟨by rfl, ?_⟩) hHeld ?_ ?_
                rotate_left
                ·rintro w' ⟨s0, s1, s2, s3, s4, s5, s6, s7, s8, s9, s10, s11, s12, s13, s14, s15⟩
                 go_simp
                 with_reducible rfl
                rotate_left
                ·simp only [Act.put, List.setIfInBounds_toArray, List.set_cons_zero, List.set_cons_succ, i64_w, i32_w]
                 rfl
                refine pure_ (i := 22) (N := some 99) (v := ?_) (a' := ?_) #[true, true, true, true, true, true, true, true, true, true, true, true, true, true, true, true, true, true, true, true, true, true, true, false] rfl rfl (any_of HT_.out (by kernel_rfl)) (fun _ _ _ h => h) (Or.inl ⟨by rfl, ?_⟩) ?_ ?_
                rotate_left
                ·intro w'
                 go_simp
                 with_reducible rfl
                rotate_left
                ·simp only [Act.put, List.setIfInBounds_toArray, List.set_cons_zero, List.set_cons_succ, i64_w, i32_w]
                 rfl
                refine pure_ (i := 23) (N := some 100) (v := ?_) (a' := ?_) #[true, true, true, true, true, true, true, true, true, true, true, true, true, true, true, true, true, true, true, true, true, true, true, true] rfl rfl (any_of HT_.out (by kernel_rfl)) (fun _ _ _ h => h) (Or.inl ⟨by rfl, ?_⟩) ?_ ?_
                rotate_left
                ·intro w'
                 go_simp
                 with_reducible rfl
                rotate_left
                ·simp only [Act.put, List.setIfInBounds_toArray, List.set_cons_zero, List.set_cons_succ, i64_w, i32_w]
                 rfl
                refine done_ (done_of HT_.out (by kernel_rfl)) ?_
                try go_wp2
                go_roundg k3
                case measure => have := HJ7.out; have := HJ23.out; have := HK3.out; omega
                case rel => exact ⟨(wrap64 (x16_3 + 1)), (by rfl), H', ⟨by have := HJ7.out; have := HJ23.out; have := HK3.out; omega⟩, ⟨by (with_reducible repeat (first | apply Kd.S_alloc | apply Kd.S_drewN | apply Kd.S_drew)); exact HO_14.out⟩, ⟨by (with_reducible repeat (first | apply Kd.R_alloc | apply Kd.R_drewN | apply Kd.R_drew)); exact HO_32000.out⟩, ⟨by (with_reducible repeat (first | apply Kd.R_alloc | apply Kd.R_drewN | apply Kd.R_drew)); exact HO_32001.out⟩, ⟨by (with_reducible repeat (first | apply Kd.R_alloc | apply Kd.R_drewN | apply Kd.R_drew)); exact HO_32002.out⟩, ⟨kM BK11.out⟩, ⟨kM BK31.out⟩, ⟨by repeat ((with_reducible first | exact HB.out ))⟩⟩
               ·rw [if_neg c53] at H
                have c53b0 : ((rd t19 x16_3) == (rd l0_1 x16_3)) = false := beq_eq_false_iff_ne.mpr c53
                have c53b1 : ((rd t19 x16_3) != (rd l0_1 x16_3)) = true := bne_iff_ne.mpr c53
                exact absurd (HRT.out.symm.trans (Option.some.inj H).symm) (by decide)
              ·rw [if_neg c52] at H
               exact absurd H (by simp)
             ·rw [if_neg c51] at H
              exact absurd H (by simp)
           ·rw [if_neg c49] at H
            exact absurd H (by simp)
          ·rw [if_neg c48] at H
           exact absurd H (by simp)
         ·rw [if_neg c47] at H
          have c47b0 : decide (x16_3 < (l0_0.length : Int)) = false := decide_eq_false c47
          clear c47
          have H' := Aside0.mk H
          clear H
          have hnb57 := NB11_31.out
          have hnc57 := NB31_11.out
          obtain ⟨hcz58_0, hcz58_1, hcz58_2, hfz58_0, hfz58_1, hfz58_2⟩ := bk3 BK11.out
          go_wp2
          go_loopg [17] k3 (fun kq v17 w' => ∃ (x17_4 : Int), v17 = .int .i64 x17_4 ∧ Aside0 (roadbooklaw20_CallsKeep.l1 kq a3 a4 t25 x17_4 l0_0 l0_1 l0_2 t16 t19 t22 = some r) ∧ Aside0 (kq ≤ k3) ∧ Aside0 (Kd.S (Kd.slice 73 k73) 71 w' w.heap.size (fun _ => True) v26 t25) ∧ Aside0 (Kd.R k48 48 w' w.heap.size (fun _ => True) (.slice Ao28 t16.length co28) t16) ∧ Aside0 (Kd.R (Kd.int .i64) 3 w' w.heap.size (fun k_ => some k_ ≠ ((.slice Ao32 t22.length co32) : Value).ownBlock) (.slice Ao31 t19.length co31) t19) ∧ Aside0 (Kd.R (Kd.int .i64) 3 w' w.heap.size (fun k_ => some k_ ≠ ((.slice Ao31 t19.length co31) : Value).ownBlock) (.slice Ao32 t22.length co32) t22) ∧ Aside0 (w'.heap[gb11]? = some (.cells #[(.slice A0_0 l0_0.length c0_0), (.slice A0_1 l0_1.length c0_1), (.slice A0_2 l0_2.length c0_2)] 38 (0, 0))) ∧ Aside0 (w'.heap[gb31]? = some (.cells #[(.slice Ao28 t16.length co28), (.slice Ao31 t19.length co31), (.slice Ao32 t22.length co32)] 38 (0, 0))) ∧ Aside0 (Below w.heap.size w w'))
          case atStart => exact ⟨(0), (by rfl), H', ⟨Nat.le_refl _⟩, ⟨by (with_reducible repeat (first | apply Kd.S_alloc | apply Kd.S_drewN | apply Kd.S_drew)); exact HO_14.out⟩, ⟨by (with_reducible repeat (first | apply Kd.R_alloc | apply Kd.R_drewN | apply Kd.R_drew)); exact HO_32000.out⟩, ⟨by (with_reducible repeat (first | apply Kd.R_alloc | apply Kd.R_drewN | apply Kd.R_drew)); exact HO_32001.out⟩, ⟨by (with_reducible repeat (first | apply Kd.R_alloc | apply Kd.R_drewN | apply Kd.R_drew)); exact HO_32002.out⟩, ⟨kM BK11.out⟩, ⟨kM BK31.out⟩, ⟨by repeat ((with_reducible first | exact HB.out ))⟩⟩
          case round =>
           clear H'
           try clear c47b0
           try clear hcz58_0
           try clear hcz58_1
           try clear hcz58_2
           try clear hfz58_0
           try clear hfz58_1
           try clear hfz58_2
           obtain ⟨x17_4, rfl, HA, HK4, HO_14, HO_32000, HO_32001, HO_32002, BK11, BK31, HB⟩ := hrel
           cases gk with
           | zero => exact absurd HA.out (by simp [roadbooklaw20_CallsKeep.l1])
           | succ k4 =>
            have H := HA.out
            clear HA
            simp only [roadbooklaw20_CallsKeep.l1] at H
            by_cases c59 : x17_4 < (t25.length : Int)
            ·rw [if_pos c59] at H
             have c59b0 : decide (x17_4 < (t25.length : Int)) = true := decide_eq_true c59
             clear c59
             have H' := Aside0.mk H
             clear H
             obtain ⟨Ao60, co60, eo60⟩ := Kd.S_slice HO_14.out
             subst eo60
             go_wp2
             go_loopg [18] k4 (fun kq v18 w' => ∃ (x18_5 : Int), v18 = .int .i64 x18_5 ∧ Aside0 (roadbooklaw20_CallsKeep.l2 kq a3 a4 t25 x17_4 x18_5 l0_0 l0_1 l0_2 t16 t19 t22 = some r) ∧ Aside0 (kq ≤ k4) ∧ Aside0 (Kd.S (Kd.slice 73 k73) 71 w' w.heap.size (fun _ => True) (.slice Ao60 t25.length co60) t25) ∧ Aside0 (Kd.R k48 48 w' w.heap.size (fun _ => True) (.slice Ao28 t16.length co28) t16) ∧ Aside0 (Kd.R (Kd.int .i64) 3 w' w.heap.size (fun k_ => some k_ ≠ ((.slice Ao32 t22.length co32) : Value).ownBlock) (.slice Ao31 t19.length co31) t19) ∧ Aside0 (Kd.R (Kd.int .i64) 3 w' w.heap.size (fun k_ => some k_ ≠ ((.slice Ao31 t19.length co31) : Value).ownBlock) (.slice Ao32 t22.length co32) t22) ∧ Aside0 (w'.heap[gb11]? = some (.cells #[(.slice A0_0 l0_0.length c0_0), (.slice A0_1 l0_1.length c0_1), (.slice A0_2 l0_2.length c0_2)] 38 (0, 0))) ∧ Aside0 (w'.heap[gb31]? = some (.cells #[(.slice Ao28 t16.length co28), (.slice Ao31 t19.length co31), (.slice Ao32 t22.length co32)] 38 (0, 0))) ∧ Aside0 (Below w.heap.size w w'))
             case atStart => exact ⟨(0), (by rfl), H', ⟨Nat.le_refl _⟩, ⟨by (with_reducible repeat (first | apply Kd.S_alloc | apply Kd.S_drewN | apply Kd.S_drew)); exact HO_14.out⟩, ⟨by (with_reducible repeat (first | apply Kd.R_alloc | apply Kd.R_drewN | apply Kd.R_drew)); exact HO_32000.out⟩, ⟨by (with_reducible repeat (first | apply Kd.R_alloc | apply Kd.R_drewN | apply Kd.R_drew)); exact HO_32001.out⟩, ⟨by (with_reducible repeat (first | apply Kd.R_alloc | apply Kd.R_drewN | apply Kd.R_drew)); exact HO_32002.out⟩, ⟨kM BK11.out⟩, ⟨kM BK31.out⟩, ⟨by repeat ((with_reducible first | exact HB.out ))⟩⟩
             case round =>
              clear H'
              try clear c59b0
              obtain ⟨x18_5, rfl, HA, HK5, HO_14, HO_32000, HO_32001, HO_32002, BK11, BK31, HB⟩ := hrel
              cases gk with
              | zero => exact absurd HA.out (by simp [roadbooklaw20_CallsKeep.l2])
              | succ k5 =>
               have H := HA.out
               clear HA
               simp only [roadbooklaw20_CallsKeep.l2] at H
               by_cases c61 : 0 ≤ x17_4
               ·rw [if_pos c61] at H
                have c61b0 : decide (0 ≤ x17_4) = true := decide_eq_true c61
                clear c61
                by_cases c62 : x17_4 < (t25.length : Int)
                ·rw [if_pos c62] at H
                 have c62b0 : decide (x17_4 < (t25.length : Int)) = true := decide_eq_true c62
                 clear c62
                 by_cases c63 : x18_5 < ((rd_L6 t25 x17_4).length : Int)
                 ·rw [if_pos c63] at H
                  have c63b0 : decide (x18_5 < ((rd_L6 t25 x17_4).length : Int)) = true := decide_eq_true c63
                  clear c63
                  by_cases c64 : 0 ≤ x18_5
                  ·rw [if_pos c64] at H
                   have c64b0 : decide (0 ≤ x18_5) = true := decide_eq_true c64
                   clear c64
                   by_cases c65 : ((rd_T73 (rd_L6 t25 x17_4) x18_5).f1) = 0
                   ·rw [if_pos c65] at H
                    have c65b0 : (((rd_T73 (rd_L6 t25 x17_4) x18_5).f1) == 0) = true := beq_iff_eq.mpr c65
                    have c65b1 : (((rd_T73 (rd_L6 t25 x17_4) x18_5).f1) != 0) = false := bne_eq_false_iff_eq.mpr c65
                    clear c65
                    replace H := Option.bind_eq_some_iff.mp H
                    obtain ⟨t41, A660, H⟩ := H
                    have A66 := Aside0.mk A660
                    clear A660
                    by_cases c67 : t41 < 0
                    ·rw [if_pos c67] at H
                     have c67b0 : decide (t41 < 0) = true := decide_eq_true c67
                     clear c67
                     exact absurd (HRT.out.symm.trans (Option.some.inj H).symm) (by decide)
                    ·rw [if_neg c67] at H
                     have c67b0 : decide (t41 < 0) = false := decide_eq_false c67
                     clear c67
                     have H' := Aside0.mk H
                     clear H
                     have p37 : 0 ≤ (x17_4 : Int) := of_decide_eq_true (by (with_reducible assumption))
                     have q37 : x17_4 < (t25.length : Int) := of_decide_eq_true (by (with_reducible assumption))
                     obtain ⟨ad37, A37_0, c37_0, e37, hx37_0, hl37_0, hi37_0⟩ := at_L6 (Kd.S_reads' HO_14.out).2.2 x17_4 p37 q37
                     cases e37
                     obtain ⟨ce37, hce37, hMe37, hcc37⟩ := Kd.S_get HO_14.out [] x17_4 p37 (by exact q37)
                     obtain ⟨ve37_0, rfl, ge37_0⟩ := hMe37
                     have hv37_0 := hcc37 0 _ rfl
                     rw [Nat.add_zero, show ((Kd.slice 73 k73)).sz = 1 from rfl, Nat.mul_one] at hv37_0
                     replace hv37_0 := Option.some.inj (hv37_0.symm.trans hx37_0)
                     rw [hv37_0] at ge37_0
                     have HL37_0 := Aside0.mk (show Kd.R k73 73 _ _ _ _ (rd_L6 t25 x17_4) from ge37_0)
                     clear hv37_0 ge37_0
                     clear hcc37 hce37
                     have HR37_0 := Aside0.mk hi37_0
                     have HC37_0 := Aside0.mk hl37_0
                     clear hi37_0 hl37_0
                     replace p37 := eq_true p37
                     replace q37 := eq_true q37
                     have p38 : 0 ≤ (x17_4 : Int) := of_decide_eq_true (by (with_reducible assumption))
                     have q38 : x17_4 < (t25.length : Int) := of_decide_eq_true (by (with_reducible assumption))
                     obtain ⟨ad38, A38_0, c38_0, e38, hx38_0, hl38_0, hi38_0⟩ := at_L6 (Kd.S_reads' HO_14.out).2.2 x17_4 p38 q38
                     obtain rfl : ad37 = ad38 := (by injection e38)
                     obtain ⟨ce38, hce38, hMe38, hcc38⟩ := Kd.S_get HO_14.out [] x17_4 p38 (by exact q38)
                     obtain ⟨ve38_0, rfl, ge38_0⟩ := hMe38
                     have hv38_0 := hcc38 0 _ rfl
                     rw [Nat.add_zero, show ((Kd.slice 73 k73)).sz = 1 from rfl, Nat.mul_one] at hv38_0
                     replace hv38_0 := Option.some.inj (hv38_0.symm.trans hx38_0)
                     rw [hv38_0] at ge38_0
                     have HL38_0 := Aside0.mk (show Kd.R k73 73 _ _ _ _ (rd_L6 t25 x17_4) from ge38_0)
                     clear hv38_0 ge38_0
                     clear hcc38 hce38
                     have HR38_0 := Aside0.mk hi38_0
                     have HC38_0 := Aside0.mk hl38_0
                     clear hi38_0 hl38_0
                     replace p38 := eq_true p38
                     replace q38 := eq_true q38
                     have ea_ := Option.some.inj (hx37_0.symm.trans hx38_0)
                     injection ea_ with ea_ en_ ec_
                     subst ea_
                     subst ec_
                     clear en_
                     have p39 : 0 ≤ (x18_5 : Int) := of_decide_eq_true (by (with_reducible assumption))
                     have q39 : x18_5 < ((rd_L6 t25 x17_4).length : Int) := of_decide_eq_true (by (with_reducible assumption))
                     obtain ⟨ad39, e39, hx39_0, hx39_1⟩ := at_T73 (by repeat ((with_reducible exact HR38_0.out))) x18_5 p39 q39
                     cases e39
                     replace p39 := eq_true p39
                     replace q39 := eq_true q39
                     go_wp2_with (first | ((with_reducible refine gate_dst (N := 19) rfl ?_); (try (refine gate_guard (by rfl) ?_; dsimp only)); refine box_event ?hg (N := 19) ?hd (cs := #[.int .i64 0, .int .i64 0]) (t := 73) ?hr ?_; (case hd => rfl); (case hg => rfl); (case hr => first | (go_simp; done) ); intro gb40 hg w68 hbox hb; replace HO_14 := Aside0.mk (Kd.S_below (Kd.S_elderB (sM HO_14.out) gb40 (Nat.le_of_eq hg.symm)) hb); replace HO_32000 := Aside0.mk (Kd.R_below (rM HO_32000.out) hb); replace HO_32001 := Aside0.mk (Kd.R_below (rM HO_32001.out) hb); replace HO_32002 := Aside0.mk (Kd.R_below (rM HO_32002.out) hb); replace HL37_0 := Aside0.mk (Kd.R_below (Kd.R_elderB (by (with_reducible repeat (first | apply Kd.R_alloc | apply Kd.R_drewN | apply Kd.R_drew)); exact HL37_0.out) gb40 (Nat.le_of_eq hg.symm)) hb); replace HL38_0 := Aside0.mk (Kd.R_below (Kd.R_elderB (by (with_reducible repeat (first | apply Kd.R_alloc | apply Kd.R_drewN | apply Kd.R_drew)); exact HL38_0.out) gb40 (Nat.le_of_eq hg.symm)) hb); replace HR37_0 := Aside0.mk (Kd.C_below (by repeat ((with_reducible exact HR37_0.out))) hb); replace HR38_0 := Aside0.mk (Kd.C_below (by repeat ((with_reducible exact HR38_0.out))) hb); have BK40 := Aside0.mk (hbox); have GW40 := Aside0.mk ((by rw [hg]; exact (below_size (by exact wM HB.out)) : w.heap.size ≤ gb40)); have GE40 := Aside0.mk ((by rw [hg]; exact (below_size (by exact wM HB.out)) : w.heap.size ≤ gb40)); replace HB := Aside0.mk (below_step (by exact wM HB.out) hb); have NB11_40 := Aside0.mk ((by rw [hg]; exact Nat.ne_of_lt (blk_lt (kM BK11.out)) : gb11 ≠ gb40)); have NB40_11 := Aside0.mk ((by rw [hg]; exact Nat.ne_of_gt (blk_lt (kM BK11.out)) : gb40 ≠ gb11)); replace BK11 := Aside0.mk (blk_below (kM BK11.out) hb); have NB31_40 := Aside0.mk ((by rw [hg]; exact Nat.ne_of_lt (blk_lt (kM BK31.out)) : gb31 ≠ gb40)); have NB40_31 := Aside0.mk ((by rw [hg]; exact Nat.ne_of_gt (blk_lt (kM BK31.out)) : gb40 ≠ gb31)); replace BK31 := Aside0.mk (blk_below (kM BK31.out) hb); clear hb hbox hg; have hnb69 := NB40_11.out; have hnc69 := NB11_40.out; have hnb70 := NB40_31.out; have hnc70 := NB31_40.out; obtain ⟨hcz71_0, hcz71_1, hfz71_0, hfz71_1⟩ := bk2 BK40.out; have hnb72 := NB31_11.out; have hnc72 := NB11_31.out; obtain ⟨hcz73_0, hcz73_1, hcz73_2, hfz73_0, hfz73_1, hfz73_2⟩ := bk3 BK31.out) | (go_at_call 42; (with_reducible refine (memo_Find.calls k5 _ _ t16 _ _ t19 _ _ t22 ((rd_T73 (rd_L6 t25 x17_4) x18_5).f0) t41 _ ?side1 ?side2 ?side3 ?side4 ?side5 ?side6 A66.out).mono ?_); (case side1 => refine (Kd.R_reads' (e := 48) (base := w.heap.size) (ok := fun k_ => True) (n := t16.length) (c := co28) ?_).2.2; exact (by (with_reducible repeat (first | apply Kd.R_alloc | apply Kd.R_drewN | apply Kd.R_drew)); exact (Kd.R_mono (Kd.R_far (p := ⟨gb40, 1, none⟩) (Kd.R_far (p := ⟨gb40, 0, none⟩) (Kd.R_types HO_32000.out BK40.out (by decide)) (fun _ hk => hk.2) (.int .i64 ((rd_T73 (rd_L6 t25 x17_4) x18_5).f0))) (fun _ hk => hk.2) (.int .i64 ((rd_T73 (rd_L6 t25 x17_4) x18_5).f1))) (fun _ h_ => h_.1)))); (case side2 => exact (Kd.R_reads' HO_32000.out).2.1); (case side3 => refine (Kd.R_reads' (e := 3) (base := w.heap.size) (ok := fun k_ => some k_ ≠ (.slice Ao32 t22.length co32 : Value).ownBlock) (n := t19.length) (c := co31) ?_).2.2; exact (by (with_reducible repeat (first | apply Kd.R_alloc | apply Kd.R_drewN | apply Kd.R_drew)); exact (Kd.R_mono (Kd.R_far (p := ⟨gb40, 1, none⟩) (Kd.R_far (p := ⟨gb40, 0, none⟩) (Kd.R_types HO_32001.out BK40.out (by decide)) (fun _ hk => hk.2) (.int .i64 ((rd_T73 (rd_L6 t25 x17_4) x18_5).f0))) (fun _ hk => hk.2) (.int .i64 ((rd_T73 (rd_L6 t25 x17_4) x18_5).f1))) (fun _ h_ => h_.1)))); (case side4 => exact (Kd.R_reads' HO_32001.out).2.1); (case side5 => refine (Kd.R_reads' (e := 3) (base := w.heap.size) (ok := fun k_ => some k_ ≠ (.slice Ao31 t19.length co31 : Value).ownBlock) (n := t22.length) (c := co32) ?_).2.2; exact (by (with_reducible repeat (first | apply Kd.R_alloc | apply Kd.R_drewN | apply Kd.R_drew)); exact (Kd.R_mono (Kd.R_far (p := ⟨gb40, 1, none⟩) (Kd.R_far (p := ⟨gb40, 0, none⟩) (Kd.R_types HO_32002.out BK40.out (by decide)) (fun _ hk => hk.2) (.int .i64 ((rd_T73 (rd_L6 t25 x17_4) x18_5).f0))) (fun _ hk => hk.2) (.int .i64 ((rd_T73 (rd_L6 t25 x17_4) x18_5).f1))) (fun _ h_ => h_.1)))); (case side6 => exact (Kd.R_reads' HO_32002.out).2.1); rintro e w74 ⟨rfl, hb⟩; replace HO_14 := Aside0.mk (Kd.S_below (by (with_reducible repeat (first | apply Kd.S_alloc | apply Kd.S_drewN | apply Kd.S_drew)); exact (Kd.S_mono (Kd.S_far (p := ⟨gb40, 1, none⟩) (Kd.S_far (p := ⟨gb40, 0, none⟩) (Kd.S_mono HO_14.out (fun k_ hk => (⟨hk, hk.2⟩ : _ ∧ k_ ≠ gb40))) (fun _ hk => hk.2) (.int .i64 ((rd_T73 (rd_L6 t25 x17_4) x18_5).f0))) (fun _ hk => hk.2) (.int .i64 ((rd_T73 (rd_L6 t25 x17_4) x18_5).f1))) (fun _ h_ => h_.1))) hb); replace HO_32000 := Aside0.mk (Kd.R_below (by (with_reducible repeat (first | apply Kd.R_alloc | apply Kd.R_drewN | apply Kd.R_drew)); exact (Kd.R_mono (Kd.R_far (p := ⟨gb40, 1, none⟩) (Kd.R_far (p := ⟨gb40, 0, none⟩) (Kd.R_types HO_32000.out BK40.out (by decide)) (fun _ hk => hk.2) (.int .i64 ((rd_T73 (rd_L6 t25 x17_4) x18_5).f0))) (fun _ hk => hk.2) (.int .i64 ((rd_T73 (rd_L6 t25 x17_4) x18_5).f1))) (fun _ h_ => h_.1))) hb); replace HO_32001 := Aside0.mk (Kd.R_below (by (with_reducible repeat (first | apply Kd.R_alloc | apply Kd.R_drewN | apply Kd.R_drew)); exact (Kd.R_mono (Kd.R_far (p := ⟨gb40, 1, none⟩) (Kd.R_far (p := ⟨gb40, 0, none⟩) (Kd.R_types HO_32001.out BK40.out (by decide)) (fun _ hk => hk.2) (.int .i64 ((rd_T73 (rd_L6 t25 x17_4) x18_5).f0))) (fun _ hk => hk.2) (.int .i64 ((rd_T73 (rd_L6 t25 x17_4) x18_5).f1))) (fun _ h_ => h_.1))) hb); replace HO_32002 := Aside0.mk (Kd.R_below (by (with_reducible repeat (first | apply Kd.R_alloc | apply Kd.R_drewN | apply Kd.R_drew)); exact (Kd.R_mono (Kd.R_far (p := ⟨gb40, 1, none⟩) (Kd.R_far (p := ⟨gb40, 0, none⟩) (Kd.R_types HO_32002.out BK40.out (by decide)) (fun _ hk => hk.2) (.int .i64 ((rd_T73 (rd_L6 t25 x17_4) x18_5).f0))) (fun _ hk => hk.2) (.int .i64 ((rd_T73 (rd_L6 t25 x17_4) x18_5).f1))) (fun _ h_ => h_.1))) hb); replace BK11 := Aside0.mk (blk_below (kF2 BK11.out NB11_40.out) hb); replace BK31 := Aside0.mk (blk_below (kF2 BK31.out NB31_40.out) hb); replace HR37_0 := Aside0.mk (Kd.C_below ((Kd.R_reads' (by (with_reducible repeat (first | apply Kd.R_alloc | apply Kd.R_drewN | apply Kd.R_drew)); exact (Kd.R_mono (Kd.R_far (p := ⟨gb40, 1, none⟩) (Kd.R_far (p := ⟨gb40, 0, none⟩) (Kd.R_mono HL37_0.out (fun k_ hk => (⟨hk, hk.2⟩ : _ ∧ k_ ≠ gb40))) (fun _ hk => hk.2) (.int .i64 ((rd_T73 (rd_L6 t25 x17_4) x18_5).f0))) (fun _ hk => hk.2) (.int .i64 ((rd_T73 (rd_L6 t25 x17_4) x18_5).f1))) (fun _ h_ => h_.1)))).2.2) hb); replace HL37_0 := Aside0.mk (Kd.R_below (by (with_reducible repeat (first | apply Kd.R_alloc | apply Kd.R_drewN | apply Kd.R_drew)); exact (Kd.R_mono (Kd.R_far (p := ⟨gb40, 1, none⟩) (Kd.R_far (p := ⟨gb40, 0, none⟩) (Kd.R_mono HL37_0.out (fun k_ hk => (⟨hk, hk.2⟩ : _ ∧ k_ ≠ gb40))) (fun _ hk => hk.2) (.int .i64 ((rd_T73 (rd_L6 t25 x17_4) x18_5).f0))) (fun _ hk => hk.2) (.int .i64 ((rd_T73 (rd_L6 t25 x17_4) x18_5).f1))) (fun _ h_ => h_.1))) hb); replace HR38_0 := Aside0.mk (Kd.C_below ((Kd.R_reads' (by (with_reducible repeat (first | apply Kd.R_alloc | apply Kd.R_drewN | apply Kd.R_drew)); exact (Kd.R_mono (Kd.R_far (p := ⟨gb40, 1, none⟩) (Kd.R_far (p := ⟨gb40, 0, none⟩) (Kd.R_mono HL38_0.out (fun k_ hk => (⟨hk, hk.2⟩ : _ ∧ k_ ≠ gb40))) (fun _ hk => hk.2) (.int .i64 ((rd_T73 (rd_L6 t25 x17_4) x18_5).f0))) (fun _ hk => hk.2) (.int .i64 ((rd_T73 (rd_L6 t25 x17_4) x18_5).f1))) (fun _ h_ => h_.1)))).2.2) hb); replace HL38_0 := Aside0.mk (Kd.R_below (by (with_reducible repeat (first | apply Kd.R_alloc | apply Kd.R_drewN | apply Kd.R_drew)); exact (Kd.R_mono (Kd.R_far (p := ⟨gb40, 1, none⟩) (Kd.R_far (p := ⟨gb40, 0, none⟩) (Kd.R_mono HL38_0.out (fun k_ hk => (⟨hk, hk.2⟩ : _ ∧ k_ ≠ gb40))) (fun _ hk => hk.2) (.int .i64 ((rd_T73 (rd_L6 t25 x17_4) x18_5).f0))) (fun _ hk => hk.2) (.int .i64 ((rd_T73 (rd_L6 t25 x17_4) x18_5).f1))) (fun _ h_ => h_.1))) hb); replace BK40 := Aside0.mk (blk_below (g := gb40) (o := .cells #[.int .i64 ((rd_T73 (rd_L6 t25 x17_4) x18_5).f0), .int .i64 ((rd_T73 (rd_L6 t25 x17_4) x18_5).f1)] 73 (0, 0)) (by (with_reducible repeat (first | refine blk_drewN ?_ _ | refine blk_drew ?_ | refine blk_alloc ?_ _)); refine blk_put (cs := #[.int .i64 ((rd_T73 (rd_L6 t25 x17_4) x18_5).f0), .int .i64 0]) ?_ 1 _ rfl; (with_reducible repeat (first | refine blk_drewN ?_ _ | refine blk_drew ?_ | refine blk_alloc ?_ _)); refine blk_put (cs := #[.int .i64 0, .int .i64 0]) ?_ 0 _ rfl; (with_reducible repeat (first | refine blk_drewN ?_ _ | refine blk_drew ?_ | refine blk_alloc ?_ _)); exact BK40.out) hb); replace HB := Aside0.mk (below_step (by exact wF2 HB.out GE40.out) hb); (try clear hb); have hcz75_0 : w74.cell? ⟨gb40, 0, none⟩ = some (.int .i64 ((rd_T73 (rd_L6 t25 x17_4) x18_5).f0)) := (blk_cell BK40.out 0).trans rfl; have hcz75_1 : w74.cell? ⟨gb40, 1, none⟩ = some (.int .i64 ((rd_T73 (rd_L6 t25 x17_4) x18_5).f1)) := (blk_cell BK40.out 1).trans rfl; have hfz75_0 := blk_frozen BK40.out 0; have hfz75_1 := blk_frozen BK40.out 1))
                     go_roundg k5
                     case measure => have := HJ7.out; have := HJ23.out; have := HK3.out; have := HK4.out; have := HK5.out; omega
                     case rel => exact ⟨(wrap64 (x18_5 + 1)), (by rfl), H', ⟨by have := HJ7.out; have := HJ23.out; have := HK3.out; have := HK4.out; have := HK5.out; omega⟩, ⟨by (with_reducible repeat (first | apply Kd.S_alloc | apply Kd.S_drewN | apply Kd.S_drew)); exact Kd.S_mono HO_14.out (fun _ hk => trivial)⟩, ⟨by (with_reducible repeat (first | apply Kd.R_alloc | apply Kd.R_drewN | apply Kd.R_drew)); exact HO_32000.out⟩, ⟨by (with_reducible repeat (first | apply Kd.R_alloc | apply Kd.R_drewN | apply Kd.R_drew)); exact HO_32001.out⟩, ⟨by (with_reducible repeat (first | apply Kd.R_alloc | apply Kd.R_drewN | apply Kd.R_drew)); exact HO_32002.out⟩, ⟨kM BK11.out⟩, ⟨kM BK31.out⟩, ⟨by repeat ((with_reducible first | exact HB.out ))⟩⟩
                   ·rw [if_neg c65] at H
                    have c65b0 : (((rd_T73 (rd_L6 t25 x17_4) x18_5).f1) == 0) = false := beq_eq_false_iff_ne.mpr c65
                    have c65b1 : (((rd_T73 (rd_L6 t25 x17_4) x18_5).f1) != 0) = true := bne_iff_ne.mpr c65
                    by_cases c76 : ((rd_T73 (rd_L6 t25 x17_4) x18_5).f0) = (-1)
                    ·rw [if_pos c76] at H
                     have c76b0 : (((rd_T73 (rd_L6 t25 x17_4) x18_5).f0) == (-1)) = true := beq_iff_eq.mpr c76
                     have c76b1 : (((rd_T73 (rd_L6 t25 x17_4) x18_5).f0) != (-1)) = false := bne_eq_false_iff_eq.mpr c76
                     clear c76
                     have H' := Aside0.mk H
                     clear H
                     have p37 : 0 ≤ (x17_4 : Int) := of_decide_eq_true (by (with_reducible assumption))
                     have q37 : x17_4 < (t25.length : Int) := of_decide_eq_true (by (with_reducible assumption))
                     obtain ⟨ad37, A37_0, c37_0, e37, hx37_0, hl37_0, hi37_0⟩ := at_L6 (Kd.S_reads' HO_14.out).2.2 x17_4 p37 q37
                     cases e37
                     obtain ⟨ce37, hce37, hMe37, hcc37⟩ := Kd.S_get HO_14.out [] x17_4 p37 (by exact q37)
                     obtain ⟨ve37_0, rfl, ge37_0⟩ := hMe37
                     have hv37_0 := hcc37 0 _ rfl
                     rw [Nat.add_zero, show ((Kd.slice 73 k73)).sz = 1 from rfl, Nat.mul_one] at hv37_0
                     replace hv37_0 := Option.some.inj (hv37_0.symm.trans hx37_0)
                     rw [hv37_0] at ge37_0
                     have HL37_0 := Aside0.mk (show Kd.R k73 73 _ _ _ _ (rd_L6 t25 x17_4) from ge37_0)
                     clear hv37_0 ge37_0
                     clear hcc37 hce37
                     have HR37_0 := Aside0.mk hi37_0
                     have HC37_0 := Aside0.mk hl37_0
                     clear hi37_0 hl37_0
                     replace p37 := eq_true p37
                     replace q37 := eq_true q37
                     have p38 : 0 ≤ (x17_4 : Int) := of_decide_eq_true (by (with_reducible assumption))
                     have q38 : x17_4 < (t25.length : Int) := of_decide_eq_true (by (with_reducible assumption))
                     obtain ⟨ad38, A38_0, c38_0, e38, hx38_0, hl38_0, hi38_0⟩ := at_L6 (Kd.S_reads' HO_14.out).2.2 x17_4 p38 q38
                     obtain rfl : ad37 = ad38 := (by injection e38)
                     obtain ⟨ce38, hce38, hMe38, hcc38⟩ := Kd.S_get HO_14.out [] x17_4 p38 (by exact q38)
                     obtain ⟨ve38_0, rfl, ge38_0⟩ := hMe38
                     have hv38_0 := hcc38 0 _ rfl
                     rw [Nat.add_zero, show ((Kd.slice 73 k73)).sz = 1 from rfl, Nat.mul_one] at hv38_0
                     replace hv38_0 := Option.some.inj (hv38_0.symm.trans hx38_0)
                     rw [hv38_0] at ge38_0
                     have HL38_0 := Aside0.mk (show Kd.R k73 73 _ _ _ _ (rd_L6 t25 x17_4) from ge38_0)
                     clear hv38_0 ge38_0
                     clear hcc38 hce38
                     have HR38_0 := Aside0.mk hi38_0
                     have HC38_0 := Aside0.mk hl38_0
                     clear hi38_0 hl38_0
                     replace p38 := eq_true p38
                     replace q38 := eq_true q38
                     have ea_ := Option.some.inj (hx37_0.symm.trans hx38_0)
                     injection ea_ with ea_ en_ ec_
                     subst ea_
                     subst ec_
                     clear en_
                     have p39 : 0 ≤ (x18_5 : Int) := of_decide_eq_true (by (with_reducible assumption))
                     have q39 : x18_5 < ((rd_L6 t25 x17_4).length : Int) := of_decide_eq_true (by (with_reducible assumption))
                     obtain ⟨ad39, e39, hx39_0, hx39_1⟩ := at_T73 (by repeat ((with_reducible exact HR38_0.out))) x18_5 p39 q39
                     cases e39
                     replace p39 := eq_true p39
                     replace q39 := eq_true q39
                     go_wp2_with (((with_reducible refine gate_dst (N := 19) rfl ?_); (try (refine gate_guard (by rfl) ?_; dsimp only)); refine box_event ?hg (N := 19) ?hd (cs := #[.int .i64 0, .int .i64 0]) (t := 73) ?hr ?_; (case hd => rfl); (case hg => rfl); (case hr => first | (go_simp; done) ); intro gb40 hg w77 hbox hb; replace HO_14 := Aside0.mk (Kd.S_below (Kd.S_elderB (sM HO_14.out) gb40 (Nat.le_of_eq hg.symm)) hb); replace HO_32000 := Aside0.mk (Kd.R_below (rM HO_32000.out) hb); replace HO_32001 := Aside0.mk (Kd.R_below (rM HO_32001.out) hb); replace HO_32002 := Aside0.mk (Kd.R_below (rM HO_32002.out) hb); replace HL37_0 := Aside0.mk (Kd.R_below (Kd.R_elderB (by (with_reducible repeat (first | apply Kd.R_alloc | apply Kd.R_drewN | apply Kd.R_drew)); exact HL37_0.out) gb40 (Nat.le_of_eq hg.symm)) hb); replace HL38_0 := Aside0.mk (Kd.R_below (Kd.R_elderB (by (with_reducible repeat (first | apply Kd.R_alloc | apply Kd.R_drewN | apply Kd.R_drew)); exact HL38_0.out) gb40 (Nat.le_of_eq hg.symm)) hb); replace HR37_0 := Aside0.mk (Kd.C_below (by repeat ((with_reducible exact HR37_0.out))) hb); replace HR38_0 := Aside0.mk (Kd.C_below (by repeat ((with_reducible exact HR38_0.out))) hb); have BK40 := Aside0.mk (hbox); have GW40 := Aside0.mk ((by rw [hg]; exact (below_size (by exact wM HB.out)) : w.heap.size ≤ gb40)); have GE40 := Aside0.mk ((by rw [hg]; exact (below_size (by exact wM HB.out)) : w.heap.size ≤ gb40)); replace HB := Aside0.mk (below_step (by exact wM HB.out) hb); have NB11_40 := Aside0.mk ((by rw [hg]; exact Nat.ne_of_lt (blk_lt (kM BK11.out)) : gb11 ≠ gb40)); have NB40_11 := Aside0.mk ((by rw [hg]; exact Nat.ne_of_gt (blk_lt (kM BK11.out)) : gb40 ≠ gb11)); replace BK11 := Aside0.mk (blk_below (kM BK11.out) hb); have NB31_40 := Aside0.mk ((by rw [hg]; exact Nat.ne_of_lt (blk_lt (kM BK31.out)) : gb31 ≠ gb40)); have NB40_31 := Aside0.mk ((by rw [hg]; exact Nat.ne_of_gt (blk_lt (kM BK31.out)) : gb40 ≠ gb31)); replace BK31 := Aside0.mk (blk_below (kM BK31.out) hb); clear hb hbox hg; have hnb78 := NB40_11.out; have hnc78 := NB11_40.out; have hnb79 := NB40_31.out; have hnc79 := NB31_40.out; obtain ⟨hcz80_0, hcz80_1, hfz80_0, hfz80_1⟩ := bk2 BK40.out))
                     go_roundg k5
                     case measure => have := HJ7.out; have := HJ23.out; have := HK3.out; have := HK4.out; have := HK5.out; omega
                     case rel => exact ⟨(wrap64 (x18_5 + 1)), (by rfl), H', ⟨by have := HJ7.out; have := HJ23.out; have := HK3.out; have := HK4.out; have := HK5.out; omega⟩, ⟨by (with_reducible repeat (first | apply Kd.S_alloc | apply Kd.S_drewN | apply Kd.S_drew)); exact Kd.S_mono (Kd.S_far (p := ⟨gb40, 1, none⟩) (Kd.S_far (p := ⟨gb40, 0, none⟩) (Kd.S_mono HO_14.out (fun k_ hk => (⟨hk, hk.2⟩ : _ ∧ k_ ≠ gb40))) (fun _ hk => hk.2) (.int .i64 ((rd_T73 (rd_L6 t25 x17_4) x18_5).f0))) (fun _ hk => hk.2) (.int .i64 ((rd_T73 (rd_L6 t25 x17_4) x18_5).f1))) (fun _ hk => trivial)⟩, ⟨by (with_reducible repeat (first | apply Kd.R_alloc | apply Kd.R_drewN | apply Kd.R_drew)); exact Kd.R_mono (Kd.R_far (p := ⟨gb40, 1, none⟩) (Kd.R_far (p := ⟨gb40, 0, none⟩) (Kd.R_types HO_32000.out BK40.out (by decide)) (fun _ hk => hk.2) (.int .i64 ((rd_T73 (rd_L6 t25 x17_4) x18_5).f0))) (fun _ hk => hk.2) (.int .i64 ((rd_T73 (rd_L6 t25 x17_4) x18_5).f1))) (fun _ hk => trivial)⟩, ⟨by (with_reducible repeat (first | apply Kd.R_alloc | apply Kd.R_drewN | apply Kd.R_drew)); exact Kd.R_mono (Kd.R_far (p := ⟨gb40, 1, none⟩) (Kd.R_far (p := ⟨gb40, 0, none⟩) (Kd.R_types HO_32001.out BK40.out (by decide)) (fun _ hk => hk.2) (.int .i64 ((rd_T73 (rd_L6 t25 x17_4) x18_5).f0))) (fun _ hk => hk.2) (.int .i64 ((rd_T73 (rd_L6 t25 x17_4) x18_5).f1))) (fun _ hk => hk.1)⟩, ⟨by (with_reducible repeat (first | apply Kd.R_alloc | apply Kd.R_drewN | apply Kd.R_drew)); exact Kd.R_mono (Kd.R_far (p := ⟨gb40, 1, none⟩) (Kd.R_far (p := ⟨gb40, 0, none⟩) (Kd.R_types HO_32002.out BK40.out (by decide)) (fun _ hk => hk.2) (.int .i64 ((rd_T73 (rd_L6 t25 x17_4) x18_5).f0))) (fun _ hk => hk.2) (.int .i64 ((rd_T73 (rd_L6 t25 x17_4) x18_5).f1))) (fun _ hk => hk.1)⟩, ⟨by (with_reducible repeat (first | refine blk_drewN ?_ _ | refine blk_drew ?_ | refine blk_alloc ?_ _)); refine blk_far ?_ NB11_40.out _; (with_reducible repeat (first | refine blk_drewN ?_ _ | refine blk_drew ?_ | refine blk_alloc ?_ _)); refine blk_far ?_ NB11_40.out _; (with_reducible repeat (first | refine blk_drewN ?_ _ | refine blk_drew ?_ | refine blk_alloc ?_ _)); exact BK11.out⟩, ⟨by (with_reducible repeat (first | refine blk_drewN ?_ _ | refine blk_drew ?_ | refine blk_alloc ?_ _)); refine blk_far ?_ NB31_40.out _; (with_reducible repeat (first | refine blk_drewN ?_ _ | refine blk_drew ?_ | refine blk_alloc ?_ _)); refine blk_far ?_ NB31_40.out _; (with_reducible repeat (first | refine blk_drewN ?_ _ | refine blk_drew ?_ | refine blk_alloc ?_ _)); exact BK31.out⟩, ⟨by repeat ((with_reducible first | exact HB.out | refine below_set ?_ GE40.out))⟩⟩
                    ·rw [if_neg c76] at H
                     have c76b0 : (((rd_T73 (rd_L6 t25 x17_4) x18_5).f0) == (-1)) = false := beq_eq_false_iff_ne.mpr c76
                     have c76b1 : (((rd_T73 (rd_L6 t25 x17_4) x18_5).f0) != (-1)) = true := bne_iff_ne.mpr c76
                     exact absurd (HRT.out.symm.trans (Option.some.inj H).symm) (by decide)
                  ·rw [if_neg c64] at H
                   exact absurd H (by simp)
                 ·rw [if_neg c63] at H
                  have c63b0 : decide (x18_5 < ((rd_L6 t25 x17_4).length : Int)) = false := decide_eq_false c63
                  clear c63
                  have H' := Aside0.mk H
                  clear H
                  have p37 : 0 ≤ (x17_4 : Int) := of_decide_eq_true (by (with_reducible assumption))
                  have q37 : x17_4 < (t25.length : Int) := of_decide_eq_true (by (with_reducible assumption))
                  obtain ⟨ad37, A37_0, c37_0, e37, hx37_0, hl37_0, hi37_0⟩ := at_L6 (Kd.S_reads' HO_14.out).2.2 x17_4 p37 q37
                  cases e37
                  obtain ⟨ce37, hce37, hMe37, hcc37⟩ := Kd.S_get HO_14.out [] x17_4 p37 (by exact q37)
                  obtain ⟨ve37_0, rfl, ge37_0⟩ := hMe37
                  have hv37_0 := hcc37 0 _ rfl
                  rw [Nat.add_zero, show ((Kd.slice 73 k73)).sz = 1 from rfl, Nat.mul_one] at hv37_0
                  replace hv37_0 := Option.some.inj (hv37_0.symm.trans hx37_0)
                  rw [hv37_0] at ge37_0
                  have HL37_0 := Aside0.mk (show Kd.R k73 73 _ _ _ _ (rd_L6 t25 x17_4) from ge37_0)
                  clear hv37_0 ge37_0
                  clear hcc37 hce37
                  have HR37_0 := Aside0.mk hi37_0
                  have HC37_0 := Aside0.mk hl37_0
                  clear hi37_0 hl37_0
                  replace p37 := eq_true p37
                  replace q37 := eq_true q37
                  go_wp2
                  go_roundg k5
                  case measure => have := HJ7.out; have := HJ23.out; have := HK3.out; have := HK4.out; have := HK5.out; omega
                  case rel => exact ⟨(wrap64 (x17_4 + 1)), (by rfl), H', ⟨by have := HJ7.out; have := HJ23.out; have := HK3.out; have := HK4.out; have := HK5.out; omega⟩, ⟨by (with_reducible repeat (first | apply Kd.S_alloc | apply Kd.S_drewN | apply Kd.S_drew)); exact HO_14.out⟩, ⟨by (with_reducible repeat (first | apply Kd.R_alloc | apply Kd.R_drewN | apply Kd.R_drew)); exact HO_32000.out⟩, ⟨by (with_reducible repeat (first | apply Kd.R_alloc | apply Kd.R_drewN | apply Kd.R_drew)); exact HO_32001.out⟩, ⟨by (with_reducible repeat (first | apply Kd.R_alloc | apply Kd.R_drewN | apply Kd.R_drew)); exact HO_32002.out⟩, ⟨kM BK11.out⟩, ⟨kM BK31.out⟩, ⟨by repeat ((with_reducible first | exact HB.out ))⟩⟩
                ·rw [if_neg c62] at H
                 exact absurd H (by simp)
               ·rw [if_neg c61] at H
                exact absurd H (by simp)
            ·rw [if_neg c59] at H
             have c59b0 : decide (x17_4 < (t25.length : Int)) = false := decide_eq_false c59
             clear c59
             replace H := Option.bind_eq_some_iff.mp H
             obtain ⟨t42, A810, H⟩ := H
             have A81 := Aside0.mk A810
             clear A810
             by_cases c82 : t42 < 0
             ·rw [if_pos c82] at H
              have c82b0 : decide (t42 < 0) = true := decide_eq_true c82
              clear c82
              obtain rfl := Option.some.inj H
              obtain ⟨Ao83, co83, eo83⟩ := Kd.S_slice HO_14.out
              subst eo83
              try go_wp2
              replace HO_14 := Aside0.mk (Kd.S_drew HO_14.out)
              replace HO_32000 := Aside0.mk (Kd.R_drew HO_32000.out)
              replace HO_32001 := Aside0.mk (Kd.R_drew HO_32001.out)
              replace HO_32002 := Aside0.mk (Kd.R_drew HO_32002.out)
              replace BK11 := Aside0.mk (blk_drew BK11.out)
              replace BK31 := Aside0.mk (blk_drew BK31.out)
              replace HB := Aside0.mk (below_drew1 HB.out)
              refine start_ (n := 23) (S := fun w' => w'.cell? ⟨gb11, 0, none⟩ = some (.slice A0_0 l0_0.length c0_0) ∧ w'.cell? ⟨gb11, 1, none⟩ = some (.slice A0_1 l0_1.length c0_1) ∧ w'.cell? ⟨gb11, 2, none⟩ = some (.slice A0_2 l0_2.length c0_2)) (ds := []) #[false, false, false, false, false, false, false, false, false, false, false, false, false, false, false, false, false, false, false, false, false, false, false] (by kernel_rfl) rfl rfl ⟨(blk_cell BK11.out 0).trans rfl, (blk_cell BK11.out 1).trans rfl, (blk_cell BK11.out 2).trans rfl⟩ (fun hHeld => ?_); refine with_tabW roadbooklaw20_CallsKeep.tab22 roadbooklaw20_CallsKeep.bits22 (fun HT_ HW_ => ?_)
              generalize wr.drew = w84 at HO_14 HO_32000 HO_32001 HO_32002 BK11 BK31 HB hHeld ⊢
              refine pure_ (i := 1) (N := some 144) (v := ?_) (a' := ?_) #[false, true, false, false, false, false, false, false, false, false, false, false, false, false, false, false, false, false, false, false, false, false, false] rfl rfl (any_of HT_.out (by kernel_rfl)) (fun _ _ _ h => h) (Or.inl ⟨by rfl, ?_⟩) ?_ ?_
              rotate_left
              ·intro w'
               go_simp
               with_reducible rfl
              rotate_left
              ·simp only [Act.put, List.setIfInBounds_toArray, List.set_cons_zero, List.set_cons_succ, i64_w, i32_w]
               rfl
              refine take_ (i := 0) (N := some 143) (v := ?_) (a' := ?_) #[true, true, false, false, false, false, false, false, false, false, false, false, false, false, false, false, false, false, false, false, false, false, false] rfl rfl (take_ofW HT_.out HW_.out (by kernel_rfl)) (fun _ _ _ h => h) (Or.inl ⟨by rfl, ?_⟩) hHeld ?_ ?_
              rotate_left
              ·rintro w' ⟨s0, s1, s2⟩
               go_simp
               with_reducible rfl
              rotate_left
              ·simp only [Act.put, List.setIfInBounds_toArray, List.set_cons_zero, List.set_cons_succ, i64_w, i32_w]
               rfl
              refine one_ (i := 2) (N := some 145) #[true, true, true, false, false, false, false, false, false, false, false, false, false, false, false, false, false, false, false, false, false, false, false] rfl rfl (one_of HT_.out (by kernel_rfl)) (by decide) (fun K hK => ?_)
              refine goes_ Try.func42 (by kernel_rfl) rfl #[.agg #[.slice A0_0 l0_0.length c0_0, .slice A0_1 l0_1.length c0_1, .slice A0_2 l0_2.length c0_2], .int .i64 a3] (by rfl) rfl rfl (by (try simp only [List.map_toArray, List.map_cons, List.map_nil]); first | rfl ) ?_
              with_reducible refine (memo_Find.calls k4 _ _ l0_0 _ _ l0_1 _ _ l0_2 a3 t42 _ ?side1 ?side2 ?side3 ?side4 ?side5 ?side6 A81.out).mono ?_
              (case side1 => exact cM (Kd.C_below HR0_0.out HB.out))
              (case side2 => exact HC0_0.out)
              (case side3 => exact cM (Kd.C_below HR0_1.out HB.out))
              (case side4 => exact HC0_1.out)
              (case side5 => exact cM (Kd.C_below HR0_2.out HB.out))
              (case side6 => exact HC0_2.out)
              rintro e w85 ⟨rfl, hb⟩
              refine ⟨_, rfl, ?_⟩
              replace HO_14 := Aside0.mk (Kd.S_below (sM HO_14.out) hb)
              replace HO_32000 := Aside0.mk (Kd.R_below (rM HO_32000.out) hb)
              replace HO_32001 := Aside0.mk (Kd.R_below (rM HO_32001.out) hb)
              replace HO_32002 := Aside0.mk (Kd.R_below (rM HO_32002.out) hb)
              replace BK11 := Aside0.mk (blk_below (kM BK11.out) hb)
              replace BK31 := Aside0.mk (blk_below (kM BK31.out) hb)
              replace HB := Aside0.mk (below_step (by exact wM HB.out) hb)
              (try clear hb)
              (try clear hb2)
              (try clear hk)
              (try clear hi)
              refine hK.out _ _ ⟨(blk_cell BK11.out 0).trans rfl, (blk_cell BK11.out 1).trans rfl, (blk_cell BK11.out 2).trans rfl⟩ (fun hHeld => ?_)
              clear hK K
              refine norm_ (a' := ?_) ?_ ?_
              rotate_left
              ·show Act.put _ (some 145) _ = _
               simp only [Act.put, List.setIfInBounds_toArray, List.set_cons_zero, List.set_cons_succ, i64_w, i32_w]
               rfl
              refine pure_ (i := 3) (N := some 146) (v := ?_) (a' := ?_) #[true, true, true, true, false, false, false, false, false, false, false, false, false, false, false, false, false, false, false, false, false, false, false] rfl rfl (any_of HT_.out (by kernel_rfl)) (fun _ _ _ h => h) (Or.inl ⟨by rfl, ?_⟩) ?_ ?_
              rotate_left
              ·intro w'
               go_simp
               with_reducible rfl
              rotate_left
              ·simp only [Act.put, List.setIfInBounds_toArray, List.set_cons_zero, List.set_cons_succ, i64_w, i32_w]
               rfl
              refine pure_ (i := 4) (N := some 147) (v := ?_) (a' := ?_) #[true, true, true, true, true, false, false, false, false, false, false, false, false, false, false, false, false, false, false, false, false, false, false] rfl rfl (any_of HT_.out (by kernel_rfl)) (fun _ _ _ h => h) (Or.inl ⟨by rfl, ?_⟩) ?_ ?_
              rotate_left
              ·intro w'
               go_simp
               with_reducible rfl
              rotate_left
              ·simp only [Act.put, List.setIfInBounds_toArray, List.set_cons_zero, List.set_cons_succ, i64_w, i32_w]
               rfl
              refine pure_ (i := 5) (N := some 148) (v := undef) (a' := ?_) #[true, true, true, true, true, true, false, false, false, false, false, false, false, false, false, false, false, false, false, false, false, false, false] rfl rfl (any_of HT_.out (by kernel_rfl)) (fun _ _ _ h => h) (Or.inr ⟨by rfl, rfl⟩) ?_ ?_
              rotate_left
              ·simp only [Act.put, List.setIfInBounds_toArray, List.set_cons_zero, List.set_cons_succ, i64_w, i32_w]
               rfl
              refine pure_ (i := 6) (N := some 149) (v := undef) (a' := ?_) #[true, true, true, true, true, true, true, false, false, false, false, false, false, false, false, false, false, false, false, false, false, false, false] rfl rfl (any_of HT_.out (by kernel_rfl)) (fun _ _ _ h => h) (Or.inr ⟨by rfl, rfl⟩) ?_ ?_
              rotate_left
              ·simp only [Act.put, List.setIfInBounds_toArray, List.set_cons_zero, List.set_cons_succ, i64_w, i32_w]
               rfl
              refine pure_ (i := 7) (N := some 150) (v := undef) (a' := ?_) #[true, true, true, true, true, true, true, true, false, false, false, false, false, false, false, false, false, false, false, false, false, false, false] rfl rfl (any_of HT_.out (by kernel_rfl)) (fun _ _ _ h => h) (Or.inr ⟨by rfl, rfl⟩) ?_ ?_
              rotate_left
              ·simp only [Act.put, List.setIfInBounds_toArray, List.set_cons_zero, List.set_cons_succ, i64_w, i32_w]
               rfl
              refine pure_ (i := 8) (N := some 151) (v := undef) (a' := ?_) #[true, true, true, true, true, true, true, true, true, false, false, false, false, false, false, false, false, false, false, false, false, false, false] rfl rfl (any_of HT_.out (by kernel_rfl)) (fun _ _ _ h => h) (Or.inr ⟨by rfl, rfl⟩) ?_ ?_
              rotate_left
              ·simp only [Act.put, List.setIfInBounds_toArray, List.set_cons_zero, List.set_cons_succ, i64_w, i32_w]
               rfl
              refine pure_ (i := 9) (N := some 152) (v := undef) (a' := ?_) #[true, true, true, true, true, true, true, true, true, true, false, false, false, false, false, false, false, false, false, false, false, false, false] rfl rfl (any_of HT_.out (by kernel_rfl)) (fun _ _ _ h => h) (Or.inr ⟨by rfl, rfl⟩) ?_ ?_
              rotate_left
              ·simp only [Act.put, List.setIfInBounds_toArray, List.set_cons_zero, List.set_cons_succ, i64_w, i32_w]
               rfl
              refine pure_ (i := 10) (N := some 153) (v := undef) (a' := ?_) #[true, true, true, true, true, true, true, true, true, true, true, false, false, false, false, false, false, false, false, false, false, false, false] rfl rfl (any_of HT_.out (by kernel_rfl)) (fun _ _ _ h => h) (Or.inr ⟨by rfl, rfl⟩) ?_ ?_
              rotate_left
              ·simp only [Act.put, List.setIfInBounds_toArray, List.set_cons_zero, List.set_cons_succ, i64_w, i32_w]
               rfl
              refine pure_ (i := 11) (N := some 154) (v := undef) (a' := ?_) #[true, true, true, true, true, true, true, true, true, true, true, true, false, false, false, false, false, false, false, false, false, false, false] rfl rfl (any_of HT_.out (by kernel_rfl)) (fun _ _ _ h => h) (Or.inr ⟨by rfl, rfl⟩) ?_ ?_
              rotate_left
              ·simp only [Act.put, List.setIfInBounds_toArray, List.set_cons_zero, List.set_cons_succ, i64_w, i32_w]
               rfl
              refine pure_ (i := 12) (N := some 155) (v := ?_) (a' := ?_) #[true, true, true, true, true, true, true, true, true, true, true, true, true, false, false, false, false, false, false, false, false, false, false] rfl rfl (any_of HT_.out (by kernel_rfl)) (fun _ _ _ h => h) (Or.inl ⟨by rfl, ?_⟩) ?_ ?_
              rotate_left
              ·intro w'
               go_simp
               with_reducible rfl
              rotate_left
              ·simp only [Act.put, List.setIfInBounds_toArray, List.set_cons_zero, List.set_cons_succ, i64_w, i32_w]
               rfl
              refine pure_ (i := 13) (N := some 156) (v := ?_) (a' := ?_) #[true, true, true, true, true, true, true, true, true, true, true, true, true, true, false, false, false, false, false, false, false, false, false] rfl rfl (any_of HT_.out (by kernel_rfl)) (fun _ _ _ h => h) (Or.inl ⟨by rfl, ?_⟩) ?_ ?_
              rotate_left
              ·intro w'
               go_simp
               with_reducible rfl
              rotate_left
              ·simp only [Act.put, List.setIfInBounds_toArray, List.set_cons_zero, List.set_cons_succ, i64_w, i32_w]
               rfl
              refine pure_ (i := 14) (N := some 157) (v := undef) (a' := ?_) #[true, true, true, true, true, true, true, true, true, true, true, true, true, true, true, false, false, false, false, false, false, false, false] rfl rfl (any_of HT_.out (by kernel_rfl)) (fun _ _ _ h => h) (Or.inr ⟨by rfl, rfl⟩) ?_ ?_
              rotate_left
              ·simp only [Act.put, List.setIfInBounds_toArray, List.set_cons_zero, List.set_cons_succ, i64_w, i32_w]
               rfl
              refine pure_ (i := 15) (N := some 158) (v := undef) (a' := ?_) #[true, true, true, true, true, true, true, true, true, true, true, true, true, true, true, true, false, false, false, false, false, false, false] rfl rfl (any_of HT_.out (by kernel_rfl)) (fun _ _ _ h => h) (Or.inr ⟨by rfl, rfl⟩) ?_ ?_
              rotate_left
              ·simp only [Act.put, List.setIfInBounds_toArray, List.set_cons_zero, List.set_cons_succ, i64_w, i32_w]
               rfl
              refine pure_ (i := 16) (N := some 159) (v := undef) (a' := ?_) #[true, true, true, true, true, true, true, true, true, true, true, true, true, true, true, true, true, false, false, false, false, false, false] rfl rfl (any_of HT_.out (by kernel_rfl)) (fun _ _ _ h => h) (Or.inr ⟨by rfl, rfl⟩) ?_ ?_
              rotate_left
              ·simp only [Act.put, List.setIfInBounds_toArray, List.set_cons_zero, List.set_cons_succ, i64_w, i32_w]
               rfl
              refine pure_ (i := 17) (N := some 160) (v := undef) (a' := ?_) #[true, true, true, true, true, true, true, true, true, true, true, true, true, true, true, true, true, true, false, false, false, false, false] rfl rfl (any_of HT_.out (by kernel_rfl)) (fun _ _ _ h => h) (Or.inr ⟨by rfl, rfl⟩) ?_ ?_
              rotate_left
              ·simp only [Act.put, List.setIfInBounds_toArray, List.set_cons_zero, List.set_cons_succ, i64_w, i32_w]
               rfl
              refine pure_ (i := 18) (N := some 161) (v := undef) (a' := ?_) #[true, true, true, true, true, true, true, true, true, true, true, true, true, true, true, true, true, true, true, false, false, false, false] rfl rfl (any_of HT_.out (by kernel_rfl)) (fun _ _ _ h => h) (Or.inr ⟨by rfl, rfl⟩) ?_ ?_
              rotate_left
              ·simp only [Act.put, List.setIfInBounds_toArray, List.set_cons_zero, List.set_cons_succ, i64_w, i32_w]
               rfl
              refine pure_ (i := 19) (N := some 162) (v := undef) (a' := ?_) #[true, true, true, true, true, true, true, true, true, true, true, true, true, true, true, true, true, true, true, true, false, false, false] rfl rfl (any_of HT_.out (by kernel_rfl)) (fun _ _ _ h => h) (Or.inr ⟨by rfl, rfl⟩) ?_ ?_
              rotate_left
              ·simp only [Act.put, List.setIfInBounds_toArray, List.set_cons_zero, List.set_cons_succ, i64_w, i32_w]
               rfl
              refine pure_ (i := 20) (N := some 163) (v := undef) (a' := ?_) #[true, true, true, true, true, true, true, true, true, true, true, true, true, true, true, true, true, true, true, true, true, false, false] rfl rfl (any_of HT_.out (by kernel_rfl)) (fun _ _ _ h => h) (Or.inr ⟨by rfl, rfl⟩) ?_ ?_
              rotate_left
              ·simp only [Act.put, List.setIfInBounds_toArray, List.set_cons_zero, List.set_cons_succ, i64_w, i32_w]
               rfl
              refine pure_ (i := 21) (N := some 164) (v := ?_) (a' := ?_) #[true, true, true, true, true, true, true, true, true, true, true, true, true, true, true, true, true, true, true, true, true, true, false] rfl rfl (any_of HT_.out (by kernel_rfl)) (fun _ _ _ h => h) (Or.inl ⟨by rfl, ?_⟩) ?_ ?_
              rotate_left
              ·intro w'
               go_simp
               with_reducible rfl
              rotate_left
              ·simp only [Act.put, List.setIfInBounds_toArray, List.set_cons_zero, List.set_cons_succ, i64_w, i32_w]
               rfl
              refine pure_ (i := 22) (N := some 10) (v := ?_) (a' := ?_) #[true, true, true, true, true, true, true, true, true, true, true, true, true, true, true, true, true, true, true, true, true, true, true] rfl rfl (any_of HT_.out (by kernel_rfl)) (fun _ _ _ h => h) (Or.inl ⟨by rfl, ?_⟩) ?_ ?_
              rotate_left
              ·intro w'
               go_simp
               with_reducible rfl
              rotate_left
              ·simp only [Act.put, List.setIfInBounds_toArray, List.set_cons_zero, List.set_cons_succ, i64_w, i32_w]
               rfl
              refine done_ (done_of HT_.out (by kernel_rfl)) ?_
              try go_wp2
              go_ret
              exact ⟨by rfl, by repeat ((with_reducible first | exact HB.out ))⟩
             ·rw [if_neg c82] at H
              have c82b0 : decide (t42 < 0) = false := decide_eq_false c82
              clear c82
              replace H := Option.bind_eq_some_iff.mp H
              obtain ⟨t43, A860, H⟩ := H
              have A86 := Aside0.mk A860
              clear A860
              replace H := Option.bind_eq_some_iff.mp H
              obtain ⟨t44, A870, H⟩ := H
              have A87 := Aside0.mk A870
              clear A870
              by_cases c88 : t43 = t44
              ·rw [if_pos c88] at H
               have c88b0 : (t43 == t44) = true := beq_iff_eq.mpr c88
               have c88b1 : (t43 != t44) = false := bne_eq_false_iff_eq.mpr c88
               clear c88
               replace H := Option.bind_eq_some_iff.mp H
               obtain ⟨t45, A890, H⟩ := H
               have A89 := Aside0.mk A890
               clear A890
               replace H := Option.bind_eq_some_iff.mp H
               obtain ⟨t46, A900, H⟩ := H
               have A90 := Aside0.mk A900
               clear A900
               obtain rfl := Option.some.inj H
               obtain ⟨Ao91, co91, eo91⟩ := Kd.S_slice HO_14.out
               subst eo91
               try go_wp2
               replace HO_14 := Aside0.mk (Kd.S_drew HO_14.out)
               replace HO_32000 := Aside0.mk (Kd.R_drew HO_32000.out)
               replace HO_32001 := Aside0.mk (Kd.R_drew HO_32001.out)
               replace HO_32002 := Aside0.mk (Kd.R_drew HO_32002.out)
               replace BK11 := Aside0.mk (blk_drew BK11.out)
               replace BK31 := Aside0.mk (blk_drew BK31.out)
               replace HB := Aside0.mk (below_drew1 HB.out)
               refine start_ (n := 23) (S := fun w' => w'.cell? ⟨gb11, 0, none⟩ = some (.slice A0_0 l0_0.length c0_0) ∧ w'.cell? ⟨gb11, 1, none⟩ = some (.slice A0_1 l0_1.length c0_1) ∧ w'.cell? ⟨gb11, 2, none⟩ = some (.slice A0_2 l0_2.length c0_2) ∧ w'.cell? ⟨gb31, 0, none⟩ = some (.slice Ao28 t16.length co28) ∧ w'.cell? ⟨gb31, 1, none⟩ = some (.slice Ao31 t19.length co31) ∧ w'.cell? ⟨gb31, 2, none⟩ = some (.slice Ao32 t22.length co32)) (ds := []) #[false, false, false, false, false, false, false, false, false, false, false, false, false, false, false, false, false, false, false, false, false, false, false] (by kernel_rfl) rfl rfl ⟨(blk_cell BK11.out 0).trans rfl, (blk_cell BK11.out 1).trans rfl, (blk_cell BK11.out 2).trans rfl, (blk_cell BK31.out 0).trans rfl, (blk_cell BK31.out 1).trans rfl, (blk_cell BK31.out 2).trans rfl⟩ (fun hHeld => ?_); refine with_tabW roadbooklaw20_CallsKeep.tab22 roadbooklaw20_CallsKeep.bits22 (fun HT_ HW_ => ?_)
               generalize wr.drew = w92 at HO_14 HO_32000 HO_32001 HO_32002 BK11 BK31 HB hHeld ⊢
               refine pure_ (i := 1) (N := some 144) (v := ?_) (a' := ?_) #[false, true, false, false, false, false, false, false, false, false, false, false, false, false, false, false, false, false, false, false, false, false, false] rfl rfl (any_of HT_.out (by kernel_rfl)) (fun _ _ _ h => h) (Or.inl ⟨by rfl, ?_⟩) ?_ ?_
               rotate_left
               ·intro w'
                go_simp
                with_reducible rfl
               rotate_left
               ·simp only [Act.put, List.setIfInBounds_toArray, List.set_cons_zero, List.set_cons_succ, i64_w, i32_w]
                rfl
               refine take_ (i := 0) (N := some 143) (v := ?_) (a' := ?_) #[true, true, false, false, false, false, false, false, false, false, false, false, false, false, false, false, false, false, false, false, false, false, false] rfl rfl (take_ofW HT_.out HW_.out (by kernel_rfl)) (fun _ _ _ h => h) (Or.inl ⟨by rfl, ?_⟩) hHeld ?_ ?_
               rotate_left
               ·rintro w' ⟨s0, s1, s2, s3, s4, s5⟩
                go_simp
                with_reducible rfl
               rotate_left
               ·simp only [Act.put, List.setIfInBounds_toArray, List.set_cons_zero, List.set_cons_succ, i64_w, i32_w]
                rfl
               refine one_ (i := 2) (N := some 145) #[true, true, true, false, false, false, false, false, false, false, false, false, false, false, false, false, false, false, false, false, false, false, false] rfl rfl (one_of HT_.out (by kernel_rfl)) (by decide) (fun K hK => ?_)
               refine goes_ Try.func42 (by kernel_rfl) rfl #[.agg #[.slice A0_0 l0_0.length c0_0, .slice A0_1 l0_1.length c0_1, .slice A0_2 l0_2.length c0_2], .int .i64 a3] (by rfl) rfl rfl (by (try simp only [List.map_toArray, List.map_cons, List.map_nil]); first | rfl ) ?_
               with_reducible refine (memo_Find.calls k4 _ _ l0_0 _ _ l0_1 _ _ l0_2 a3 t42 _ ?side1 ?side2 ?side3 ?side4 ?side5 ?side6 A81.out).mono ?_
               (case side1 => exact cM (Kd.C_below HR0_0.out HB.out))
               (case side2 => exact HC0_0.out)
               (case side3 => exact cM (Kd.C_below HR0_1.out HB.out))
               (case side4 => exact HC0_1.out)
               (case side5 => exact cM (Kd.C_below HR0_2.out HB.out))
               (case side6 => exact HC0_2.out)
               rintro e w93 ⟨rfl, hb⟩
               refine ⟨_, rfl, ?_⟩
               replace HO_14 := Aside0.mk (Kd.S_below (sM HO_14.out) hb)
               replace HO_32000 := Aside0.mk (Kd.R_below (rM HO_32000.out) hb)
               replace HO_32001 := Aside0.mk (Kd.R_below (rM HO_32001.out) hb)
               replace HO_32002 := Aside0.mk (Kd.R_below (rM HO_32002.out) hb)
               replace BK11 := Aside0.mk (blk_below (kM BK11.out) hb)
               replace BK31 := Aside0.mk (blk_below (kM BK31.out) hb)
               replace HB := Aside0.mk (below_step (by exact wM HB.out) hb)
               (try clear hb)
               (try clear hb2)
               (try clear hk)
               (try clear hi)
               refine hK.out _ _ ⟨(blk_cell BK11.out 0).trans rfl, (blk_cell BK11.out 1).trans rfl, (blk_cell BK11.out 2).trans rfl, (blk_cell BK31.out 0).trans rfl, (blk_cell BK31.out 1).trans rfl, (blk_cell BK31.out 2).trans rfl⟩ (fun hHeld => ?_)
               clear hK K
               refine norm_ (a' := ?_) ?_ ?_
               rotate_left
               ·show Act.put _ (some 145) _ = _
                simp only [Act.put, List.setIfInBounds_toArray, List.set_cons_zero, List.set_cons_succ, i64_w, i32_w]
                rfl
               refine pure_ (i := 3) (N := some 146) (v := ?_) (a' := ?_) #[true, true, true, true, false, false, false, false, false, false, false, false, false, false, false, false, false, false, false, false, false, false, false] rfl rfl (any_of HT_.out (by kernel_rfl)) (fun _ _ _ h => h) (Or.inl ⟨by rfl, ?_⟩) ?_ ?_
               rotate_left
               ·intro w'
                go_simp
                with_reducible rfl
               rotate_left
               ·simp only [Act.put, List.setIfInBounds_toArray, List.set_cons_zero, List.set_cons_succ, i64_w, i32_w]
                rfl
               refine pure_ (i := 4) (N := some 147) (v := ?_) (a' := ?_) #[true, true, true, true, true, false, false, false, false, false, false, false, false, false, false, false, false, false, false, false, false, false, false] rfl rfl (any_of HT_.out (by kernel_rfl)) (fun _ _ _ h => h) (Or.inl ⟨by rfl, ?_⟩) ?_ ?_
               rotate_left
               ·intro w'
                go_simp
                with_reducible rfl
               rotate_left
               ·simp only [Act.put, List.setIfInBounds_toArray, List.set_cons_zero, List.set_cons_succ, i64_w, i32_w]
                rfl
               refine pure_ (i := 6) (N := some 149) (v := ?_) (a' := ?_) #[true, true, true, true, true, false, true, false, false, false, false, false, false, false, false, false, false, false, false, false, false, false, false] rfl rfl (any_of HT_.out (by kernel_rfl)) (fun _ _ _ h => h) (Or.inl ⟨by rfl, ?_⟩) ?_ ?_
               rotate_left
               ·intro w'
                go_simp
                with_reducible rfl
               rotate_left
               ·simp only [Act.put, List.setIfInBounds_toArray, List.set_cons_zero, List.set_cons_succ, i64_w, i32_w]
                rfl
               refine pure_ (i := 9) (N := some 152) (v := ?_) (a' := ?_) #[true, true, true, true, true, false, true, false, false, true, false, false, false, false, false, false, false, false, false, false, false, false, false] rfl rfl (any_of HT_.out (by kernel_rfl)) (fun _ _ _ h => h) (Or.inl ⟨by rfl, ?_⟩) ?_ ?_
               rotate_left
               ·intro w'
                go_simp
                with_reducible rfl
               rotate_left
               ·simp only [Act.put, List.setIfInBounds_toArray, List.set_cons_zero, List.set_cons_succ, i64_w, i32_w]
                rfl
               refine take_ (i := 5) (N := some 148) (v := ?_) (a' := ?_) #[true, true, true, true, true, true, true, false, false, true, false, false, false, false, false, false, false, false, false, false, false, false, false] rfl rfl (take_ofW HT_.out HW_.out (by kernel_rfl)) (fun _ _ _ h => h) (Or.inl ⟨by rfl, ?_⟩) hHeld ?_ ?_
               rotate_left
               ·rintro w' ⟨s0, s1, s2, s3, s4, s5⟩
                go_simp
                with_reducible rfl
               rotate_left
               ·simp only [Act.put, List.setIfInBounds_toArray, List.set_cons_zero, List.set_cons_succ, i64_w, i32_w]
                rfl
               refine take_ (i := 8) (N := some 151) (v := ?_) (a' := ?_) #[true, true, true, true, true, true, true, false, true, true, false, false, false, false, false, false, false, false, false, false, false, false, false] rfl rfl (take_ofW HT_.out HW_.out (by kernel_rfl)) (fun _ _ _ h => h) (Or.inl ⟨by rfl, ?_⟩) hHeld ?_ ?_
               rotate_left
               ·rintro w' ⟨s0, s1, s2, s3, s4, s5⟩
                go_simp
                with_reducible rfl
               rotate_left
               ·simp only [Act.put, List.setIfInBounds_toArray, List.set_cons_zero, List.set_cons_succ, i64_w, i32_w]
                rfl
               refine one_ (i := 7) (N := some 150) #[true, true, true, true, true, true, true, true, true, true, false, false, false, false, false, false, false, false, false, false, false, false, false] rfl rfl (one_of HT_.out (by kernel_rfl)) (by decide) (fun K hK => ?_)
               refine goes_ Try.func42 (by kernel_rfl) rfl #[.agg #[.slice A0_0 l0_0.length c0_0, .slice A0_1 l0_1.length c0_1, .slice A0_2 l0_2.length c0_2], .int .i64 a3] (by rfl) rfl rfl (by (try simp only [List.map_toArray, List.map_cons, List.map_nil]); first | rfl ) ?_
               with_reducible refine (memo_Find.calls k4 _ _ l0_0 _ _ l0_1 _ _ l0_2 a3 t43 _ ?side1 ?side2 ?side3 ?side4 ?side5 ?side6 A86.out).mono ?_
               (case side1 => exact cM (Kd.C_below HR0_0.out HB.out))
               (case side2 => exact HC0_0.out)
               (case side3 => exact cM (Kd.C_below HR0_1.out HB.out))
               (case side4 => exact HC0_1.out)
               (case side5 => exact cM (Kd.C_below HR0_2.out HB.out))
               (case side6 => exact HC0_2.out)
               rintro e w94 ⟨rfl, hb⟩
               refine ⟨_, rfl, ?_⟩
               replace HO_14 := Aside0.mk (Kd.S_below (sM HO_14.out) hb)
               replace HO_32000 := Aside0.mk (Kd.R_below (rM HO_32000.out) hb)
               replace HO_32001 := Aside0.mk (Kd.R_below (rM HO_32001.out) hb)
               replace HO_32002 := Aside0.mk (Kd.R_below (rM HO_32002.out) hb)
               replace BK11 := Aside0.mk (blk_below (kM BK11.out) hb)
               replace BK31 := Aside0.mk (blk_below (kM BK31.out) hb)
               replace HB := Aside0.mk (below_step (by exact wM HB.out) hb)
               (try clear hb)
               (try clear hb2)
               (try clear hk)
               (try clear hi)
               refine hK.out _ _ ⟨(blk_cell BK11.out 0).trans rfl, (blk_cell BK11.out 1).trans rfl, (blk_cell BK11.out 2).trans rfl, (blk_cell BK31.out 0).trans rfl, (blk_cell BK31.out 1).trans rfl, (blk_cell BK31.out 2).trans rfl⟩ (fun hHeld => ?_)
               clear hK K
               refine norm_ (a' := ?_) ?_ ?_
               rotate_left
               ·show Act.put _ (some 150) _ = _
                simp only [Act.put, List.setIfInBounds_toArray, List.set_cons_zero, List.set_cons_succ, i64_w, i32_w]
                rfl
               refine one_ (i := 10) (N := some 153) #[true, true, true, true, true, true, true, true, true, true, true, false, false, false, false, false, false, false, false, false, false, false, false] rfl rfl (one_of HT_.out (by kernel_rfl)) (by decide) (fun K hK => ?_)
               refine goes_ Try.func42 (by kernel_rfl) rfl #[.agg #[.slice A0_0 l0_0.length c0_0, .slice A0_1 l0_1.length c0_1, .slice A0_2 l0_2.length c0_2], .int .i64 a4] (by rfl) rfl rfl (by (try simp only [List.map_toArray, List.map_cons, List.map_nil]); first | rfl ) ?_
               with_reducible refine (memo_Find.calls k4 _ _ l0_0 _ _ l0_1 _ _ l0_2 a4 t44 _ ?side1 ?side2 ?side3 ?side4 ?side5 ?side6 A87.out).mono ?_
               (case side1 => exact cM (Kd.C_below HR0_0.out HB.out))
               (case side2 => exact HC0_0.out)
               (case side3 => exact cM (Kd.C_below HR0_1.out HB.out))
               (case side4 => exact HC0_1.out)
               (case side5 => exact cM (Kd.C_below HR0_2.out HB.out))
               (case side6 => exact HC0_2.out)
               rintro e w95 ⟨rfl, hb⟩
               refine ⟨_, rfl, ?_⟩
               replace HO_14 := Aside0.mk (Kd.S_below (sM HO_14.out) hb)
               replace HO_32000 := Aside0.mk (Kd.R_below (rM HO_32000.out) hb)
               replace HO_32001 := Aside0.mk (Kd.R_below (rM HO_32001.out) hb)
               replace HO_32002 := Aside0.mk (Kd.R_below (rM HO_32002.out) hb)
               replace BK11 := Aside0.mk (blk_below (kM BK11.out) hb)
               replace BK31 := Aside0.mk (blk_below (kM BK31.out) hb)
               replace HB := Aside0.mk (below_step (by exact wM HB.out) hb)
               (try clear hb)
               (try clear hb2)
               (try clear hk)
               (try clear hi)
               refine hK.out _ _ ⟨(blk_cell BK11.out 0).trans rfl, (blk_cell BK11.out 1).trans rfl, (blk_cell BK11.out 2).trans rfl, (blk_cell BK31.out 0).trans rfl, (blk_cell BK31.out 1).trans rfl, (blk_cell BK31.out 2).trans rfl⟩ (fun hHeld => ?_)
               clear hK K
               refine norm_ (a' := ?_) ?_ ?_
               rotate_left
               ·show Act.put _ (some 153) _ = _
                simp only [Act.put, List.setIfInBounds_toArray, List.set_cons_zero, List.set_cons_succ, i64_w, i32_w]
                rfl
               refine pure_ (i := 11) (N := some 154) (v := ?_) (a' := ?_) #[true, true, true, true, true, true, true, true, true, true, true, true, false, false, false, false, false, false, false, false, false, false, false] rfl rfl (any_of HT_.out (by kernel_rfl)) (fun _ _ _ h => h) (Or.inl ⟨by rfl, ?_⟩) ?_ ?_
               rotate_left
               ·intro w'
                go_simp
                with_reducible rfl
               rotate_left
               ·simp only [Act.put, List.setIfInBounds_toArray, List.set_cons_zero, List.set_cons_succ, i64_w, i32_w]
                rfl
               refine pure_ (i := 12) (N := some 155) (v := ?_) (a' := ?_) #[true, true, true, true, true, true, true, true, true, true, true, true, true, false, false, false, false, false, false, false, false, false, false] rfl rfl (any_of HT_.out (by kernel_rfl)) (fun _ _ _ h => h) (Or.inl ⟨by rfl, ?_⟩) ?_ ?_
               rotate_left
               ·intro w'
                go_simp
                with_reducible rfl
               rotate_left
               ·simp only [Act.put, List.setIfInBounds_toArray, List.set_cons_zero, List.set_cons_succ, i64_w, i32_w]
                rfl
               refine pure_ (i := 13) (N := some 156) (v := ?_) (a' := ?_) #[true, true, true, true, true, true, true, true, true, true, true, true, true, true, false, false, false, false, false, false, false, false, false] rfl rfl (any_of HT_.out (by kernel_rfl)) (fun _ _ _ h => h) (Or.inl ⟨by rfl, ?_⟩) ?_ ?_
               rotate_left
               ·intro w'
                go_simp
                with_reducible rfl
               rotate_left
               ·simp only [Act.put, List.setIfInBounds_toArray, List.set_cons_zero, List.set_cons_succ, i64_w, i32_w]
                rfl
               refine pure_ (i := 15) (N := some 158) (v := ?_) (a' := ?_) #[true, true, true, true, true, true, true, true, true, true, true, true, true, true, false, true, false, false, false, false, false, false, false] rfl rfl (any_of HT_.out (by kernel_rfl)) (fun _ _ _ h => h) (Or.inl ⟨by rfl, ?_⟩) ?_ ?_
               rotate_left
               ·intro w'
                go_simp
                with_reducible rfl
               rotate_left
               ·simp only [Act.put, List.setIfInBounds_toArray, List.set_cons_zero, List.set_cons_succ, i64_w, i32_w]
                rfl
               refine pure_ (i := 18) (N := some 161) (v := ?_) (a' := ?_) #[true, true, true, true, true, true, true, true, true, true, true, true, true, true, false, true, false, false, true, false, false, false, false] rfl rfl (any_of HT_.out (by kernel_rfl)) (fun _ _ _ h => h) (Or.inl ⟨by rfl, ?_⟩) ?_ ?_
               rotate_left
               ·intro w'
                go_simp
                with_reducible rfl
               rotate_left
               ·simp only [Act.put, List.setIfInBounds_toArray, List.set_cons_zero, List.set_cons_succ, i64_w, i32_w]
                rfl
               refine take_ (i := 14) (N := some 157) (v := ?_) (a' := ?_) #[true, true, true, true, true, true, true, true, true, true, true, true, true, true, true, true, false, false, true, false, false, false, false] rfl rfl (take_ofW HT_.out HW_.out (by kernel_rfl)) (fun _ _ _ h => h) (Or.inl ⟨by rfl, ?_⟩) hHeld ?_ ?_
               rotate_left
               ·rintro w' ⟨s0, s1, s2, s3, s4, s5⟩
                go_simp
                with_reducible rfl
               rotate_left
               ·simp only [Act.put, List.setIfInBounds_toArray, List.set_cons_zero, List.set_cons_succ, i64_w, i32_w]
                rfl
               refine take_ (i := 17) (N := some 160) (v := ?_) (a' := ?_) #[true, true, true, true, true, true, true, true, true, true, true, true, true, true, true, true, false, true, true, false, false, false, false] rfl rfl (take_ofW HT_.out HW_.out (by kernel_rfl)) (fun _ _ _ h => h) (Or.inl ⟨by rfl, ?_⟩) hHeld ?_ ?_
               rotate_left
               ·rintro w' ⟨s0, s1, s2, s3, s4, s5⟩
                go_simp
                with_reducible rfl
               rotate_left
               ·simp only [Act.put, List.setIfInBounds_toArray, List.set_cons_zero, List.set_cons_succ, i64_w, i32_w]
                rfl
               refine one_ (i := 16) (N := some 159) #[true, true, true, true, true, true, true, true, true, true, true, true, true, true, true, true, true, true, true, false, false, false, false] rfl rfl (one_of HT_.out (by kernel_rfl)) (by decide) (fun K hK => ?_)
               refine goes_ Try.func42 (by kernel_rfl) rfl #[.agg #[.slice Ao28 t16.length co28, .slice Ao31 t19.length co31, .slice Ao32 t22.length co32], .int .i64 a3] (by rfl) rfl rfl (by (try simp only [List.map_toArray, List.map_cons, List.map_nil]); first | rfl ) ?_
               with_reducible refine (memo_Find.calls k4 _ _ t16 _ _ t19 _ _ t22 a3 t45 _ ?side1 ?side2 ?side3 ?side4 ?side5 ?side6 A89.out).mono ?_
               (case side1 => exact cM (Kd.R_reads' HO_32000.out).2.2)
               (case side2 => exact (Kd.R_reads' HO_32000.out).2.1)
               (case side3 => exact cM (Kd.R_reads' HO_32001.out).2.2)
               (case side4 => exact (Kd.R_reads' HO_32001.out).2.1)
               (case side5 => exact cM (Kd.R_reads' HO_32002.out).2.2)
               (case side6 => exact (Kd.R_reads' HO_32002.out).2.1)
               rintro e w96 ⟨rfl, hb⟩
               refine ⟨_, rfl, ?_⟩
               replace HO_14 := Aside0.mk (Kd.S_below (sM HO_14.out) hb)
               replace HO_32000 := Aside0.mk (Kd.R_below (rM HO_32000.out) hb)
               replace HO_32001 := Aside0.mk (Kd.R_below (rM HO_32001.out) hb)
               replace HO_32002 := Aside0.mk (Kd.R_below (rM HO_32002.out) hb)
               replace BK11 := Aside0.mk (blk_below (kM BK11.out) hb)
               replace BK31 := Aside0.mk (blk_below (kM BK31.out) hb)
               replace HB := Aside0.mk (below_step (by exact wM HB.out) hb)
               (try clear hb)
               (try clear hb2)
               (try clear hk)
               (try clear hi)
               refine hK.out _ _ ⟨(blk_cell BK11.out 0).trans rfl, (blk_cell BK11.out 1).trans rfl, (blk_cell BK11.out 2).trans rfl, (blk_cell BK31.out 0).trans rfl, (blk_cell BK31.out 1).trans rfl, (blk_cell BK31.out 2).trans rfl⟩ (fun hHeld => ?_)
               clear hK K
               refine norm_ (a' := ?_) ?_ ?_
               rotate_left
               ·show Act.put _ (some 159) _ = _
                simp only [Act.put, List.setIfInBounds_toArray, List.set_cons_zero, List.set_cons_succ, i64_w, i32_w]
                rfl
               refine one_ (i := 19) (N := some 162) #[true, true, true, true, true, true, true, true, true, true, true, true, true, true, true, true, true, true, true, true, false, false, false] rfl rfl (one_of HT_.out (by kernel_rfl)) (by decide) (fun K hK => ?_)
               refine goes_ Try.func42 (by kernel_rfl) rfl #[.agg #[.slice Ao28 t16.length co28, .slice Ao31 t19.length co31, .slice Ao32 t22.length co32], .int .i64 a4] (by rfl) rfl rfl (by (try simp only [List.map_toArray, List.map_cons, List.map_nil]); first | rfl ) ?_
               with_reducible refine (memo_Find.calls k4 _ _ t16 _ _ t19 _ _ t22 a4 t46 _ ?side1 ?side2 ?side3 ?side4 ?side5 ?side6 A90.out).mono ?_
               (case side1 => exact cM (Kd.R_reads' HO_32000.out).2.2)
               (case side2 => exact (Kd.R_reads' HO_32000.out).2.1)
               (case side3 => exact cM (Kd.R_reads' HO_32001.out).2.2)
               (case side4 => exact (Kd.R_reads' HO_32001.out).2.1)
               (case side5 => exact cM (Kd.R_reads' HO_32002.out).2.2)
               (case side6 => exact (Kd.R_reads' HO_32002.out).2.1)
               rintro e w97 ⟨rfl, hb⟩
               refine ⟨_, rfl, ?_⟩
               replace HO_14 := Aside0.mk (Kd.S_below (sM HO_14.out) hb)
               replace HO_32000 := Aside0.mk (Kd.R_below (rM HO_32000.out) hb)
               replace HO_32001 := Aside0.mk (Kd.R_below (rM HO_32001.out) hb)
               replace HO_32002 := Aside0.mk (Kd.R_below (rM HO_32002.out) hb)
               replace BK11 := Aside0.mk (blk_below (kM BK11.out) hb)
               replace BK31 := Aside0.mk (blk_below (kM BK31.out) hb)
               replace HB := Aside0.mk (below_step (by exact wM HB.out) hb)
               (try clear hb)
               (try clear hb2)
               (try clear hk)
               (try clear hi)
               refine hK.out _ _ ⟨(blk_cell BK11.out 0).trans rfl, (blk_cell BK11.out 1).trans rfl, (blk_cell BK11.out 2).trans rfl, (blk_cell BK31.out 0).trans rfl, (blk_cell BK31.out 1).trans rfl, (blk_cell BK31.out 2).trans rfl⟩ (fun hHeld => ?_)
               clear hK K
               refine norm_ (a' := ?_) ?_ ?_
               rotate_left
               ·show Act.put _ (some 162) _ = _
                simp only [Act.put, List.setIfInBounds_toArray, List.set_cons_zero, List.set_cons_succ, i64_w, i32_w]
                rfl
               refine pure_ (i := 20) (N := some 163) (v := ?_) (a' := ?_) #[true, true, true, true, true, true, true, true, true, true, true, true, true, true, true, true, true, true, true, true, true, false, false] rfl rfl (any_of HT_.out (by kernel_rfl)) (fun _ _ _ h => h) (Or.inl ⟨by rfl, ?_⟩) ?_ ?_
               rotate_left
               ·intro w'
                go_simp
                with_reducible rfl
               rotate_left
               ·simp only [Act.put, List.setIfInBounds_toArray, List.set_cons_zero, List.set_cons_succ, i64_w, i32_w]
                rfl
               refine pure_ (i := 21) (N := some 164) (v := ?_) (a' := ?_) #[true, true, true, true, true, true, true, true, true, true, true, true, true, true, true, true, true, true, true, true, true, true, false] rfl rfl (any_of HT_.out (by kernel_rfl)) (fun _ _ _ h => h) (Or.inl ⟨by rfl, ?_⟩) ?_ ?_
               rotate_left
               ·intro w'
                go_simp
                with_reducible rfl
               rotate_left
               ·simp only [Act.put, List.setIfInBounds_toArray, List.set_cons_zero, List.set_cons_succ, i64_w, i32_w]
                rfl
               refine pure_ (i := 22) (N := some 10) (v := ?_) (a' := ?_) #[true, true, true, true, true, true, true, true, true, true, true, true, true, true, true, true, true, true, true, true, true, true, true] rfl rfl (any_of HT_.out (by kernel_rfl)) (fun _ _ _ h => h) (Or.inl ⟨by rfl, ?_⟩) ?_ ?_
               rotate_left
               ·intro w'
                go_simp
                with_reducible rfl
               rotate_left
               ·simp only [Act.put, List.setIfInBounds_toArray, List.set_cons_zero, List.set_cons_succ, i64_w, i32_w]
                rfl
               refine done_ (done_of HT_.out (by kernel_rfl)) ?_
               try go_wp2
               go_ret
               exact ⟨by rfl, by repeat ((with_reducible first | exact HB.out ))⟩
              ·rw [if_neg c88] at H
               have c88b0 : (t43 == t44) = false := beq_eq_false_iff_ne.mpr c88
               have c88b1 : (t43 != t44) = true := bne_iff_ne.mpr c88
               obtain rfl := Option.some.inj H
               obtain ⟨Ao98, co98, eo98⟩ := Kd.S_slice HO_14.out
               subst eo98
               try go_wp2
               replace HO_14 := Aside0.mk (Kd.S_drew HO_14.out)
               replace HO_32000 := Aside0.mk (Kd.R_drew HO_32000.out)
               replace HO_32001 := Aside0.mk (Kd.R_drew HO_32001.out)
               replace HO_32002 := Aside0.mk (Kd.R_drew HO_32002.out)
               replace BK11 := Aside0.mk (blk_drew BK11.out)
               replace BK31 := Aside0.mk (blk_drew BK31.out)
               replace HB := Aside0.mk (below_drew1 HB.out)
               refine start_ (n := 23) (S := fun w' => w'.cell? ⟨gb11, 0, none⟩ = some (.slice A0_0 l0_0.length c0_0) ∧ w'.cell? ⟨gb11, 1, none⟩ = some (.slice A0_1 l0_1.length c0_1) ∧ w'.cell? ⟨gb11, 2, none⟩ = some (.slice A0_2 l0_2.length c0_2)) (ds := []) #[false, false, false, false, false, false, false, false, false, false, false, false, false, false, false, false, false, false, false, false, false, false, false] (by kernel_rfl) rfl rfl ⟨(blk_cell BK11.out 0).trans rfl, (blk_cell BK11.out 1).trans rfl, (blk_cell BK11.out 2).trans rfl⟩ (fun hHeld => ?_); refine with_tabW roadbooklaw20_CallsKeep.tab22 roadbooklaw20_CallsKeep.bits22 (fun HT_ HW_ => ?_)
               generalize wr.drew = w99 at HO_14 HO_32000 HO_32001 HO_32002 BK11 BK31 HB hHeld ⊢
               refine pure_ (i := 1) (N := some 144) (v := ?_) (a' := ?_) #[false, true, false, false, false, false, false, false, false, false, false, false, false, false, false, false, false, false, false, false, false, false, false] rfl rfl (any_of HT_.out (by kernel_rfl)) (fun _ _ _ h => h) (Or.inl ⟨by rfl, ?_⟩) ?_ ?_
               rotate_left
               ·intro w'
                go_simp
                with_reducible rfl
               rotate_left
               ·simp only [Act.put, List.setIfInBounds_toArray, List.set_cons_zero, List.set_cons_succ, i64_w, i32_w]
                rfl
               refine take_ (i := 0) (N := some 143) (v := ?_) (a' := ?_) #[true, true, false, false, false, false, false, false, false, false, false, false, false, false, false, false, false, false, false, false, false, false, false] rfl rfl (take_ofW HT_.out HW_.out (by kernel_rfl)) (fun _ _ _ h => h) (Or.inl ⟨by rfl, ?_⟩) hHeld ?_ ?_
               rotate_left
               ·rintro w' ⟨s0, s1, s2⟩
                go_simp
                with_reducible rfl
               rotate_left
               ·simp only [Act.put, List.setIfInBounds_toArray, List.set_cons_zero, List.set_cons_succ, i64_w, i32_w]
                rfl
               refine one_ (i := 2) (N := some 145) #[true, true, true, false, false, false, false, false, false, false, false, false, false, false, false, false, false, false, false, false, false, false, false] rfl rfl (one_of HT_.out (by kernel_rfl)) (by decide) (fun K hK => ?_)
               refine goes_ Try.func42 (by kernel_rfl) rfl #[.agg #[.slice A0_0 l0_0.length c0_0, .slice A0_1 l0_1.length c0_1, .slice A0_2 l0_2.length c0_2], .int .i64 a3] (by rfl) rfl rfl (by (try simp only [List.map_toArray, List.map_cons, List.map_nil]); first | rfl ) ?_
               with_reducible refine (memo_Find.calls k4 _ _ l0_0 _ _ l0_1 _ _ l0_2 a3 t42 _ ?side1 ?side2 ?side3 ?side4 ?side5 ?side6 A81.out).mono ?_
               (case side1 => exact cM (Kd.C_below HR0_0.out HB.out))
               (case side2 => exact HC0_0.out)
               (case side3 => exact cM (Kd.C_below HR0_1.out HB.out))
               (case side4 => exact HC0_1.out)
               (case side5 => exact cM (Kd.C_below HR0_2.out HB.out))
               (case side6 => exact HC0_2.out)
               rintro e w100 ⟨rfl, hb⟩
               refine ⟨_, rfl, ?_⟩
               replace HO_14 := Aside0.mk (Kd.S_below (sM HO_14.out) hb)
               replace HO_32000 := Aside0.mk (Kd.R_below (rM HO_32000.out) hb)
               replace HO_32001 := Aside0.mk (Kd.R_below (rM HO_32001.out) hb)
               replace HO_32002 := Aside0.mk (Kd.R_below (rM HO_32002.out) hb)
               replace BK11 := Aside0.mk (blk_below (kM BK11.out) hb)
               replace BK31 := Aside0.mk (blk_below (kM BK31.out) hb)
               replace HB := Aside0.mk (below_step (by exact wM HB.out) hb)
               (try clear hb)
               (try clear hb2)
               (try clear hk)
               (try clear hi)
               refine hK.out _ _ ⟨(blk_cell BK11.out 0).trans rfl, (blk_cell BK11.out 1).trans rfl, (blk_cell BK11.out 2).trans rfl⟩ (fun hHeld => ?_)
               clear hK K
               refine norm_ (a' := ?_) ?_ ?_
               rotate_left
               ·show Act.put _ (some 145) _ = _
                simp only [Act.put, List.setIfInBounds_toArray, List.set_cons_zero, List.set_cons_succ, i64_w, i32_w]
                rfl
               refine pure_ (i := 3) (N := some 146) (v := ?_) (a' := ?_) #[true, true, true, true, false, false, false, false, false, false, false, false, false, false, false, false, false, false, false, false, false, false, false] rfl rfl (any_of HT_.out (by kernel_rfl)) (fun _ _ _ h => h) (Or.inl ⟨by rfl, ?_⟩) ?_ ?_
               rotate_left
               ·intro w'
                go_simp
                with_reducible rfl
               rotate_left
               ·simp only [Act.put, List.setIfInBounds_toArray, List.set_cons_zero, List.set_cons_succ, i64_w, i32_w]
                rfl
               refine pure_ (i := 4) (N := some 147) (v := ?_) (a' := ?_) #[true, true, true, true, true, false, false, false, false, false, false, false, false, false, false, false, false, false, false, false, false, false, false] rfl rfl (any_of HT_.out (by kernel_rfl)) (fun _ _ _ h => h) (Or.inl ⟨by rfl, ?_⟩) ?_ ?_
               rotate_left
               ·intro w'
                go_simp
                with_reducible rfl
               rotate_left
               ·simp only [Act.put, List.setIfInBounds_toArray, List.set_cons_zero, List.set_cons_succ, i64_w, i32_w]
                rfl
               refine pure_ (i := 6) (N := some 149) (v := ?_) (a' := ?_) #[true, true, true, true, true, false, true, false, false, false, false, false, false, false, false, false, false, false, false, false, false, false, false] rfl rfl (any_of HT_.out (by kernel_rfl)) (fun _ _ _ h => h) (Or.inl ⟨by rfl, ?_⟩) ?_ ?_
               rotate_left
               ·intro w'
                go_simp
                with_reducible rfl
               rotate_left
               ·simp only [Act.put, List.setIfInBounds_toArray, List.set_cons_zero, List.set_cons_succ, i64_w, i32_w]
                rfl
               refine pure_ (i := 9) (N := some 152) (v := ?_) (a' := ?_) #[true, true, true, true, true, false, true, false, false, true, false, false, false, false, false, false, false, false, false, false, false, false, false] rfl rfl (any_of HT_.out (by kernel_rfl)) (fun _ _ _ h => h) (Or.inl ⟨by rfl, ?_⟩) ?_ ?_
               rotate_left
               ·intro w'
                go_simp
                with_reducible rfl
               rotate_left
               ·simp only [Act.put, List.setIfInBounds_toArray, List.set_cons_zero, List.set_cons_succ, i64_w, i32_w]
                rfl
               refine take_ (i := 5) (N := some 148) (v := ?_) (a' := ?_) #[true, true, true, true, true, true, true, false, false, true, false, false, false, false, false, false, false, false, false, false, false, false, false] rfl rfl (take_ofW HT_.out HW_.out (by kernel_rfl)) (fun _ _ _ h => h) (Or.inl ⟨by rfl, ?_⟩) hHeld ?_ ?_
               rotate_left
               ·rintro w' ⟨s0, s1, s2⟩
                go_simp
                with_reducible rfl
               rotate_left
               ·simp only [Act.put, List.setIfInBounds_toArray, List.set_cons_zero, List.set_cons_succ, i64_w, i32_w]
                rfl
               refine take_ (i := 8) (N := some 151) (v := ?_) (a' := ?_) #[true, true, true, true, true, true, true, false, true, true, false, false, false, false, false, false, false, false, false, false, false, false, false] rfl rfl (take_ofW HT_.out HW_.out (by kernel_rfl)) (fun _ _ _ h => h) (Or.inl ⟨by rfl, ?_⟩) hHeld ?_ ?_
               rotate_left
               ·rintro w' ⟨s0, s1, s2⟩
                go_simp
                with_reducible rfl
               rotate_left
               ·simp only [Act.put, List.setIfInBounds_toArray, List.set_cons_zero, List.set_cons_succ, i64_w, i32_w]
                rfl
               refine one_ (i := 7) (N := some 150) #[true, true, true, true, true, true, true, true, true, true, false, false, false, false, false, false, false, false, false, false, false, false, false] rfl rfl (one_of HT_.out (by kernel_rfl)) (by decide) (fun K hK => ?_)
               refine goes_ Try.func42 (by kernel_rfl) rfl #[.agg #[.slice A0_0 l0_0.length c0_0, .slice A0_1 l0_1.length c0_1, .slice A0_2 l0_2.length c0_2], .int .i64 a3] (by rfl) rfl rfl (by (try simp only [List.map_toArray, List.map_cons, List.map_nil]); first | rfl ) ?_
               with_reducible refine (memo_Find.calls k4 _ _ l0_0 _ _ l0_1 _ _ l0_2 a3 t43 _ ?side1 ?side2 ?side3 ?side4 ?side5 ?side6 A86.out).mono ?_
               (case side1 => exact cM (Kd.C_below HR0_0.out HB.out))
               (case side2 => exact HC0_0.out)
               (case side3 => exact cM (Kd.C_below HR0_1.out HB.out))
               (case side4 => exact HC0_1.out)
               (case side5 => exact cM (Kd.C_below HR0_2.out HB.out))
               (case side6 => exact HC0_2.out)
               rintro e w101 ⟨rfl, hb⟩
               refine ⟨_, rfl, ?_⟩
               replace HO_14 := Aside0.mk (Kd.S_below (sM HO_14.out) hb)
               replace HO_32000 := Aside0.mk (Kd.R_below (rM HO_32000.out) hb)
               replace HO_32001 := Aside0.mk (Kd.R_below (rM HO_32001.out) hb)
               replace HO_32002 := Aside0.mk (Kd.R_below (rM HO_32002.out) hb)
               replace BK11 := Aside0.mk (blk_below (kM BK11.out) hb)
               replace BK31 := Aside0.mk (blk_below (kM BK31.out) hb)
               replace HB := Aside0.mk (below_step (by exact wM HB.out) hb)
               (try clear hb)
               (try clear hb2)
               (try clear hk)
               (try clear hi)
               refine hK.out _ _ ⟨(blk_cell BK11.out 0).trans rfl, (blk_cell BK11.out 1).trans rfl, (blk_cell BK11.out 2).trans rfl⟩ (fun hHeld => ?_)
               clear hK K
               refine norm_ (a' := ?_) ?_ ?_
               rotate_left
               ·show Act.put _ (some 150) _ = _
                simp only [Act.put, List.setIfInBounds_toArray, List.set_cons_zero, List.set_cons_succ, i64_w, i32_w]
                rfl
               refine one_ (i := 10) (N := some 153) #[true, true, true, true, true, true, true, true, true, true, true, false, false, false, false, false, false, false, false, false, false, false, false] rfl rfl (one_of HT_.out (by kernel_rfl)) (by decide) (fun K hK => ?_)
               refine goes_ Try.func42 (by kernel_rfl) rfl #[.agg #[.slice A0_0 l0_0.length c0_0, .slice A0_1 l0_1.length c0_1, .slice A0_2 l0_2.length c0_2], .int .i64 a4] (by rfl) rfl rfl (by (try simp only [List.map_toArray, List.map_cons, List.map_nil]); first | rfl ) ?_
               with_reducible refine (memo_Find.calls k4 _ _ l0_0 _ _ l0_1 _ _ l0_2 a4 t44 _ ?side1 ?side2 ?side3 ?side4 ?side5 ?side6 A87.out).mono ?_
               (case side1 => exact cM (Kd.C_below HR0_0.out HB.out))
               (case side2 => exact HC0_0.out)
               (case side3 => exact cM (Kd.C_below HR0_1.out HB.out))
               (case side4 => exact HC0_1.out)
               (case side5 => exact cM (Kd.C_below HR0_2.out HB.out))
               (case side6 => exact HC0_2.out)
               rintro e w102 ⟨rfl, hb⟩
               refine ⟨_, rfl, ?_⟩
               replace HO_14 := Aside0.mk (Kd.S_below (sM HO_14.out) hb)
               replace HO_32000 := Aside0.mk (Kd.R_below (rM HO_32000.out) hb)
               replace HO_32001 := Aside0.mk (Kd.R_below (rM HO_32001.out) hb)
               replace HO_32002 := Aside0.mk (Kd.R_below (rM HO_32002.out) hb)
               replace BK11 := Aside0.mk (blk_below (kM BK11.out) hb)
               replace BK31 := Aside0.mk (blk_below (kM BK31.out) hb)
               replace HB := Aside0.mk (below_step (by exact wM HB.out) hb)
               (try clear hb)
               (try clear hb2)
               (try clear hk)
               (try clear hi)
               refine hK.out _ _ ⟨(blk_cell BK11.out 0).trans rfl, (blk_cell BK11.out 1).trans rfl, (blk_cell BK11.out 2).trans rfl⟩ (fun hHeld => ?_)
               clear hK K
               refine norm_ (a' := ?_) ?_ ?_
               rotate_left
               ·show Act.put _ (some 153) _ = _
                simp only [Act.put, List.setIfInBounds_toArray, List.set_cons_zero, List.set_cons_succ, i64_w, i32_w]
                rfl
               refine pure_ (i := 11) (N := some 154) (v := ?_) (a' := ?_) #[true, true, true, true, true, true, true, true, true, true, true, true, false, false, false, false, false, false, false, false, false, false, false] rfl rfl (any_of HT_.out (by kernel_rfl)) (fun _ _ _ h => h) (Or.inl ⟨by rfl, ?_⟩) ?_ ?_
               rotate_left
               ·intro w'
                go_simp
                with_reducible rfl
               rotate_left
               ·simp only [Act.put, List.setIfInBounds_toArray, List.set_cons_zero, List.set_cons_succ, i64_w, i32_w]
                rfl
               refine pure_ (i := 12) (N := some 155) (v := ?_) (a' := ?_) #[true, true, true, true, true, true, true, true, true, true, true, true, true, false, false, false, false, false, false, false, false, false, false] rfl rfl (any_of HT_.out (by kernel_rfl)) (fun _ _ _ h => h) (Or.inl ⟨by rfl, ?_⟩) ?_ ?_
               rotate_left
               ·intro w'
                go_simp
                with_reducible rfl
               rotate_left
               ·simp only [Act.put, List.setIfInBounds_toArray, List.set_cons_zero, List.set_cons_succ, i64_w, i32_w]
                rfl
               refine pure_ (i := 13) (N := some 156) (v := ?_) (a' := ?_) #[true, true, true, true, true, true, true, true, true, true, true, true, true, true, false, false, false, false, false, false, false, false, false] rfl rfl (any_of HT_.out (by kernel_rfl)) (fun _ _ _ h => h) (Or.inl ⟨by rfl, ?_⟩) ?_ ?_
               rotate_left
               ·intro w'
                go_simp
                with_reducible rfl
               rotate_left
               ·simp only [Act.put, List.setIfInBounds_toArray, List.set_cons_zero, List.set_cons_succ, i64_w, i32_w]
                rfl
               refine pure_ (i := 14) (N := some 157) (v := undef) (a' := ?_) #[true, true, true, true, true, true, true, true, true, true, true, true, true, true, true, false, false, false, false, false, false, false, false] rfl rfl (any_of HT_.out (by kernel_rfl)) (fun _ _ _ h => h) (Or.inr ⟨by rfl, rfl⟩) ?_ ?_
               rotate_left
               ·simp only [Act.put, List.setIfInBounds_toArray, List.set_cons_zero, List.set_cons_succ, i64_w, i32_w]
                rfl
               refine pure_ (i := 15) (N := some 158) (v := undef) (a' := ?_) #[true, true, true, true, true, true, true, true, true, true, true, true, true, true, true, true, false, false, false, false, false, false, false] rfl rfl (any_of HT_.out (by kernel_rfl)) (fun _ _ _ h => h) (Or.inr ⟨by rfl, rfl⟩) ?_ ?_
               rotate_left
               ·simp only [Act.put, List.setIfInBounds_toArray, List.set_cons_zero, List.set_cons_succ, i64_w, i32_w]
                rfl
               refine pure_ (i := 16) (N := some 159) (v := undef) (a' := ?_) #[true, true, true, true, true, true, true, true, true, true, true, true, true, true, true, true, true, false, false, false, false, false, false] rfl rfl (any_of HT_.out (by kernel_rfl)) (fun _ _ _ h => h) (Or.inr ⟨by rfl, rfl⟩) ?_ ?_
               rotate_left
               ·simp only [Act.put, List.setIfInBounds_toArray, List.set_cons_zero, List.set_cons_succ, i64_w, i32_w]
                rfl
               refine pure_ (i := 17) (N := some 160) (v := undef) (a' := ?_) #[true, true, true, true, true, true, true, true, true, true, true, true, true, true, true, true, true, true, false, false, false, false, false] rfl rfl (any_of HT_.out (by kernel_rfl)) (fun _ _ _ h => h) (Or.inr ⟨by rfl, rfl⟩) ?_ ?_
               rotate_left
               ·simp only [Act.put, List.setIfInBounds_toArray, List.set_cons_zero, List.set_cons_succ, i64_w, i32_w]
                rfl
               refine pure_ (i := 18) (N := some 161) (v := undef) (a' := ?_) #[true, true, true, true, true, true, true, true, true, true, true, true, true, true, true, true, true, true, true, false, false, false, false] rfl rfl (any_of HT_.out (by kernel_rfl)) (fun _ _ _ h => h) (Or.inr ⟨by rfl, rfl⟩) ?_ ?_
               rotate_left
               ·simp only [Act.put, List.setIfInBounds_toArray, List.set_cons_zero, List.set_cons_succ, i64_w, i32_w]
                rfl
               refine pure_ (i := 19) (N := some 162) (v := undef) (a' := ?_) #[true, true, true, true, true, true, true, true, true, true, true, true, true, true, true, true, true, true, true, true, false, false, false] rfl rfl (any_of HT_.out (by kernel_rfl)) (fun _ _ _ h => h) (Or.inr ⟨by rfl, rfl⟩) ?_ ?_
               rotate_left
               ·simp only [Act.put, List.setIfInBounds_toArray, List.set_cons_zero, List.set_cons_succ, i64_w, i32_w]
                rfl
               refine pure_ (i := 20) (N := some 163) (v := undef) (a' := ?_) #[true, true, true, true, true, true, true, true, true, true, true, true, true, true, true, true, true, true, true, true, true, false, false] rfl rfl (any_of HT_.out (by kernel_rfl)) (fun _ _ _ h => h) (Or.inr ⟨by rfl, rfl⟩) ?_ ?_
               rotate_left
               ·simp only [Act.put, List.setIfInBounds_toArray, List.set_cons_zero, List.set_cons_succ, i64_w, i32_w]
                rfl
               refine pure_ (i := 21) (N := some 164) (v := ?_) (a' := ?_) #[true, true, true, true, true, true, true, true, true, true, true, true, true, true, true, true, true, true, true, true, true, true, false] rfl rfl (any_of HT_.out (by kernel_rfl)) (fun _ _ _ h => h) (Or.inl ⟨by rfl, ?_⟩) ?_ ?_
               rotate_left
               ·intro w'
                go_simp
                with_reducible rfl
               rotate_left
               ·simp only [Act.put, List.setIfInBounds_toArray, List.set_cons_zero, List.set_cons_succ, i64_w, i32_w]
                rfl
               refine pure_ (i := 22) (N := some 10) (v := ?_) (a' := ?_) #[true, true, true, true, true, true, true, true, true, true, true, true, true, true, true, true, true, true, true, true, true, true, true] rfl rfl (any_of HT_.out (by kernel_rfl)) (fun _ _ _ h => h) (Or.inl ⟨by rfl, ?_⟩) ?_ ?_
               rotate_left
               ·intro w'
                go_simp
                with_reducible rfl
               rotate_left
               ·simp only [Act.put, List.setIfInBounds_toArray, List.set_cons_zero, List.set_cons_succ, i64_w, i32_w]
                rfl
               refine done_ (done_of HT_.out (by kernel_rfl)) ?_
               try go_wp2
               go_ret
               exact ⟨by rfl, by repeat ((with_reducible first | exact HB.out ))⟩

end Go.Proofs.Ytkidnomkfdnciaa.All
