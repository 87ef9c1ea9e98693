/- Functions of the program as plain Lean functions, and proofs that the calls do what these say; written for this claim by a program of the session (wip/tools/mkprint.py), checked by Lean. -/
import Derived.Test.YtkidnomkfdnciaaAllx0
import Derived.Test.YtkidnomkfdnciaaBk
import Derived.Test.YtkidnomkfdnciaaMv
import Derived.Test.YtkidnomkfdnciaaAllx24
import Derived.Test.YtkidnomkfdnciaaAllx50
import Derived.Test.YtkidnomkfdnciaaAllx51
import Derived.Test.YtkidnomkfdnciaaAllx52
import Derived.Test.YtkidnomkfdnciaaAllx56
namespace Go.Proofs.Ytkidnomkfdnciaa.All
open Go.RowKit Go.Proofs.YtkidnomkfdnciaaW.PrintWords Go.Proofs.YtkidnomkfdnciaaW.PrintLast Go.Proofs.YtkidnomkfdnciaaW.PrintMore
attribute [local go_sem] max2_int min2_int max_two min_two max_three min_three max_four min_four   -- for this text's walks alone
set_option linter.unusedVariables false
set_option linter.unusedSimpArgs false

/-! ### roadbooklaw20_CallsReal: function 16 -/
mutual
def roadbooklaw20_CallsReal.j0 : Nat → List (List (S76)) → List Int → Bool → Bool → List (S48) → List Int → List Int → Option (Bool)
 | 0, _, _, _, _, _, _, _ => none
 | k + 1, x1, x2, x7, x32, x12000, x12001, x12002 => if x32 = true then (some x7) else ((calls_Run.f k x12000 x12001 x12002 x1 x2).bind fun bt15 => (roadbooklaw20_CallsReal.l0 k x1 bt15.2.2.2.2 0 0))
def roadbooklaw20_CallsReal.l0 : Nat → List (List (S76)) → List (S68) → Int → Int → Option (Bool)
 | 0, _, _, _, _ => none
 | k + 1, x1, x11, x12, x13 => if x13 < (x1.length : Int) then (if 0 ≤ x13 then (roadbooklaw20_CallsReal.l0 k x1 x11 (wrap64 (x12 + (wrap64 (3 * ((rd_L5 x1 x13).length : Int))))) (wrap64 (x13 + 1))) else (none)) else (if (x11.length : Int) = x12 then (roadbooklaw20_CallsReal.l1 k x11 0) else (some false))
def roadbooklaw20_CallsReal.l1 : Nat → List (S68) → Int → Option (Bool)
 | 0, _, _ => none
 | k + 1, x11, x14 => if x14 < (x11.length : Int) then (if 0 ≤ x14 then (if ((rd_T68 x11 x14).f2) = 2 then (roadbooklaw20_CallsReal.l2 k x11 x14 (wrap64 (x14 + 1))) else (roadbooklaw20_CallsReal.l1 k x11 (wrap64 (x14 + 1)))) else (none)) else (some true)
def roadbooklaw20_CallsReal.l2 : Nat → List (S68) → Int → Int → Option (Bool)
 | 0, _, _, _ => none
 | k + 1, x11, x14, x15 => if x15 < (x11.length : Int) then (if 0 ≤ x15 then (if 0 ≤ x14 then (if x14 < (x11.length : Int) then (if ((rd_T68 x11 x15).f0) = ((rd_T68 x11 x14).f0) then (roadbooklaw20_CallsReal.j4 k x11 x14 x15 (((rd_T68 x11 x15).f1) == ((rd_T68 x11 x14).f1))) else (roadbooklaw20_CallsReal.j4 k x11 x14 x15 false)) else (none)) else (none)) else (none)) else (roadbooklaw20_CallsReal.l1 k x11 (wrap64 (x14 + 1)))
def roadbooklaw20_CallsReal.j4 : Nat → List (S68) → Int → Int → Bool → Option (Bool)
 | 0, _, _, _, _ => none
 | k + 1, x11, x14, x15, x103 => if x103 = true then (some false) else (if 0 ≤ x15 then (if x15 < (x11.length : Int) then (if ((rd_T68 x11 x15).f2) = 0 then (if 0 ≤ x14 then (if x14 < (x11.length : Int) then ((roadbooklaw20_place.f k x11 ((rd_T68 x11 x14).f0) ((rd_T68 x11 x14).f1) 1).bind fun t40 => ((roadbooklaw20_place.f k x11 ((rd_T68 x11 x15).f0) ((rd_T68 x11 x15).f1) 1).bind fun t43 => (if t40 < 0 then (some false) else (if t43 < 0 then (some false) else (if t40 > x14 then (some false) else (if t43 < x15 then (some false) else (roadbooklaw20_CallsReal.l2 k x11 x14 (wrap64 (x15 + 1))))))))) else (none)) else (none)) else (roadbooklaw20_CallsReal.l2 k x11 x14 (wrap64 (x15 + 1)))) else (none)) else (none))
end
def roadbooklaw20_CallsReal.f (k : Nat) (l0_0 : List (S48)) (l0_1 : List Int) (l0_2 : List Int) (l1 : List (List (S76))) (l2 : List Int) : Option (Bool) := (roadbooklaw20_awake.f k).bind fun t12 => ((roadbooklaw20_few.f k l1 l2).bind fun t13 => (if t12 = true then (if t13 = true then ((roadbooklaw16_Far.f l0_0 l0_1 l0_2 20).bind fun t14 => (roadbooklaw20_CallsReal.j0 k l1 l2 t12 (t14 != 0) l0_0 l0_1 l0_2)) else (roadbooklaw20_CallsReal.j0 k l1 l2 t12 true l0_0 l0_1 l0_2)) else (roadbooklaw20_CallsReal.j0 k l1 l2 t12 true l0_0 l0_1 l0_2)))
def roadbooklaw20_CallsReal.T20 : Bool × List (List Nat × List Nat) := (true, [([], []), ([], []), ([0, 1], [0, 1]), ([2], [2]), ([3], [3]), ([], []), ([], []), ([5, 6], [5, 6]), ([7], [7]), ([8], [8]), ([4, 9], [4, 9]), ([10], [10]), ([11], [11]), ([11], [11]), ([12, 13, 11], [11, 12, 13]), ([14, 11], [11, 14]), ([15, 11], [11, 15]), ([11], [11]), ([11], [11]), ([17, 18, 11], [11, 17, 18]), ([19, 11], [11, 19]), ([20, 11], [11, 20]), ([16, 21, 11], [11, 16, 21]), ([11, 22], [11, 22])])
def roadbooklaw20_CallsReal.B20 : List Nat := [0, 0, 3, 7, 15, 0, 0, 96, 224, 480, 1023, 2047, 4095, 4095, 16383, 32767, 65535, 4095, 4095, 397311, 921599, 1970175, 4194303, 8388607]
theorem roadbooklaw20_CallsReal.tab20 : rtab .any (opsOf Try.f16 20) = roadbooklaw20_CallsReal.T20 := by kernel_rfl
theorem roadbooklaw20_CallsReal.bits20 : waitsOk roadbooklaw20_CallsReal.T20.2 roadbooklaw20_CallsReal.B20 = true := by kernel_rfl
def roadbooklaw20_CallsReal.T23 : Bool × List (List Nat × List Nat) := (true, [([], []), ([], []), ([], []), ([1, 2], [1, 2]), ([3], [3]), ([4], [4]), ([], []), ([], []), ([6, 7], [6, 7]), ([8], [8]), ([9], [9]), ([5, 10], [5, 10]), ([0, 11], [0, 11]), ([12, 12, 0, 1, 2, 3, 4, 5, 6, 7, 8, 9, 10, 11, 12], [12])])
def roadbooklaw20_CallsReal.B23 : List Nat := [0, 0, 0, 6, 14, 30, 0, 0, 192, 448, 960, 2046, 4095, 8191]
theorem roadbooklaw20_CallsReal.tab23 : rtab .any (opsOf Try.f16 23) = roadbooklaw20_CallsReal.T23 := by kernel_rfl
theorem roadbooklaw20_CallsReal.bits23 : waitsOk roadbooklaw20_CallsReal.T23.2 roadbooklaw20_CallsReal.B23 = true := by kernel_rfl
def roadbooklaw20_CallsReal.T24 : Bool × List (List Nat × List Nat) := (true, [([], []), ([], []), ([], []), ([1, 2], [1, 2]), ([3], [3]), ([4], [4]), ([], []), ([], []), ([6, 7], [6, 7]), ([8], [8]), ([9], [9]), ([5, 10], [5, 10]), ([0, 11], [0, 11]), ([12, 12, 0, 1, 2, 3, 4, 5, 6, 7, 8, 9, 10, 11, 12], [12])])
def roadbooklaw20_CallsReal.B24 : List Nat := [0, 0, 0, 6, 14, 30, 0, 0, 192, 448, 960, 2046, 4095, 8191]
theorem roadbooklaw20_CallsReal.tab24 : rtab .any (opsOf Try.f16 24) = roadbooklaw20_CallsReal.T24 := by kernel_rfl
theorem roadbooklaw20_CallsReal.bits24 : waitsOk roadbooklaw20_CallsReal.T24.2 roadbooklaw20_CallsReal.B24 = true := by kernel_rfl
set_option maxHeartbeats 8000000 in
set_option maxRecDepth 100000 in
theorem roadbooklaw20_CallsReal.calls (k : Nat) (A0_0 : Option Addr) (c0_0 : Nat) (l0_0 : List (S48)) (A0_1 : Option Addr) (c0_1 : Nat) (l0_1 : List Int) (A0_2 : Option Addr) (c0_2 : Nat) (l0_2 : List Int) (A1 : Option Addr) (c1 : Nat) (l1 : List (List (S76))) (A2 : Option Addr) (c2 : Nat) (l2 : List Int) (r : Bool) (w : World) (hr0_0 : Kd.C k48 w A0_0 l0_0.length l0_0) (hc0_0 : l0_0.length ≤ c0_0) (hr0_1 : Kd.C (Kd.int .i64) w A0_1 l0_1.length l0_1) (hc0_1 : l0_1.length ≤ c0_1) (hr0_2 : Kd.C (Kd.int .i64) w A0_2 l0_2.length l0_2) (hc0_2 : l0_2.length ≤ c0_2) (hr1 : Kd.C (Kd.slice 76 k76) w A1 l1.length l1) (hc1 : l1.length ≤ c1) (hr2 : Kd.C (Kd.int .i64) w A2 l2.length l2) (hc2 : l2.length ≤ c2) (hrt : r = true) (h : roadbooklaw20_CallsReal.f k l0_0 l0_1 l0_2 l1 l2 = some r) :
  Calls Try.prog 16 #[.agg #[.slice A0_0 l0_0.length c0_0, .slice A0_1 l0_1.length c0_1, .slice A0_2 l0_2.length c0_2], .slice A1 l1.length c1, .slice A2 l2.length c2] w fun e w' => e = .returned (.bool r) ∧ Below w.heap.size w w' := by
 have HRT := Aside0.mk hrt
 clear hrt
 have hu38 := Try.underlying38
 have hu68 := Try.underlying68
 have HR0_0 := Aside0.mk hr0_0
 have HC0_0 := Aside0.mk hc0_0
 clear hr0_0 hc0_0
 have HR0_1 := Aside0.mk hr0_1
 have HC0_1 := Aside0.mk hc0_1
 clear hr0_1 hc0_1
 have HR0_2 := Aside0.mk hr0_2
 have HC0_2 := Aside0.mk hc0_2
 clear hr0_2 hc0_2
 have HR1 := Aside0.mk hr1
 have HC1 := Aside0.mk hc1
 clear hr1 hc1
 have HR2 := Aside0.mk hr2
 have HC2 := Aside0.mk hc2
 clear hr2 hc2
 have HB := Aside0.mk (Below.refl w.heap.size w)
 have H : ((roadbooklaw20_awake.f k).bind fun t12 => ((roadbooklaw20_few.f k l1 l2).bind fun t13 => (if t12 = true then (if t13 = true then ((roadbooklaw16_Far.f l0_0 l0_1 l0_2 20).bind fun t14 => (roadbooklaw20_CallsReal.j0 k l1 l2 t12 (t14 != 0) l0_0 l0_1 l0_2)) else (roadbooklaw20_CallsReal.j0 k l1 l2 t12 true l0_0 l0_1 l0_2)) else (roadbooklaw20_CallsReal.j0 k l1 l2 t12 true l0_0 l0_1 l0_2)))) = some r := h
 clear h
 replace H := Option.bind_eq_some_iff.mp H
 obtain ⟨t12, A40, H⟩ := H
 have A4 := Aside0.mk A40
 clear A40
 replace H := Option.bind_eq_some_iff.mp H
 obtain ⟨t13, A50, H⟩ := H
 have A5 := Aside0.mk A50
 clear A50
 have HC6 := Aside0.mk H
 clear H
 go_enter Try.func16, Try.ntmps16
 go_upto_region 3 with (first | ((with_reducible refine gate_dst (N := 3) rfl ?_); refine box_event ?hg (N := 3) ?hd (cs := #[.slice A0_0 l0_0.length c0_0, .slice A0_1 l0_1.length c0_1, .slice A0_2 l0_2.length c0_2]) (t := 38) ?hr ?_; (case hd => rfl); (case hg => rfl); (case hr => first | (go_simp; done) ); intro gb11 hg w7 hbox hb; have BK11 := Aside0.mk (hbox); have GW11 := Aside0.mk ((by rw [hg]; exact (below_size (by exact wM HB.out)) : w.heap.size ≤ gb11)); have GE11 := Aside0.mk ((by rw [hg]; exact (below_size (by exact wM HB.out)) : w.heap.size ≤ gb11)); replace HB := Aside0.mk (below_step (by exact wM HB.out) hb); clear hb hbox hg) | ((with_reducible refine gate_callee (f := 56) rfl ?_); refine goesL_ (some 18) rfl rfl Try.func56 (by kernel_rfl) rfl #[] rfl (by (try simp only [List.map_toArray, List.map_cons, List.map_nil]); first | done ) ?_; (with_reducible refine (roadbooklaw20_awake.calls k  t12 _ A4.out).mono ?_); rintro e w8 ⟨rfl, hb⟩; refine ⟨_, rfl, ?_⟩; replace BK11 := Aside0.mk (blk_below (kM BK11.out) hb); replace HB := Aside0.mk (below_step (by exact wM HB.out) hb); (try clear hb); ) | ((with_reducible refine gate_callee (f := 57) rfl ?_); refine goesL_ (some 21) rfl rfl Try.func57 (by kernel_rfl) rfl #[.slice A1 l1.length c1, .slice A2 l2.length c2] rfl (by (try simp only [List.map_toArray, List.map_cons, List.map_nil]); first | rfl ) ?_; (with_reducible refine (roadbooklaw20_few.calls k _ _ l1 _ _ l2 t13 _ ?side1 ?side2 ?side3 ?side4 A5.out).mono ?_); (case side1 => exact cM (Kd.C_below HR1.out HB.out)); (case side2 => exact HC1.out); (case side3 => exact cM (Kd.C_below HR2.out HB.out)); (case side4 => exact HC2.out); rintro e w' ⟨rfl, ⟨nd, rfl⟩⟩; refine ⟨_, rfl, ?_⟩))
 (try simp only [Act.put, List.setIfInBounds_toArray, List.set_cons_zero, List.set_cons_succ])
 go_cut [32] (fun v32 wc => ∃ (kq : Nat) (x32_5 : Bool), v32 = .bool x32_5 ∧ Aside0 (roadbooklaw20_CallsReal.j0 kq l1 l2 t12 x32_5 l0_0 l0_1 l0_2 = some r) ∧ Aside0 (kq ≤ k) ∧ Aside0 (wc.heap[gb11]? = some (.cells #[(.slice A0_0 l0_0.length c0_0), (.slice A0_1 l0_1.length c0_1), (.slice A0_2 l0_2.length c0_2)] 38 (0, 0))) ∧ Aside0 (Below w.heap.size w wc))
 case first =>
  have H := HC6.out
  clear HC6
  by_cases c9 : t12 = true
  ·subst c9
   rw [if_pos rfl] at H
   by_cases c10 : t13 = true
   ·subst c10
    rw [if_pos rfl] at H
    replace H := Option.bind_eq_some_iff.mp H
    obtain ⟨t14, A110, H⟩ := H
    have A11 := Aside0.mk A110
    clear A110
    have H' := Aside0.mk H
    clear H
    obtain ⟨hcz12_0, hcz12_1, hcz12_2, hfz12_0, hfz12_1, hfz12_2⟩ := bk3 BK11.out
    go_wp2_with ((go_at_call 58; (with_reducible refine (roadbooklaw16_Far.calls _ _ l0_0 _ _ l0_1 _ _ l0_2 20 t14 _ ?side1 ?side2 ?side3 ?side4 ?side5 ?side6 A11.out).mono ?_); (case side1 => exact cM (Kd.C_below HR0_0.out HB.out)); (case side2 => exact HC0_0.out); (case side3 => exact cM (Kd.C_below HR0_1.out HB.out)); (case side4 => exact HC0_1.out); (case side5 => exact cM (Kd.C_below HR0_2.out HB.out)); (case side6 => exact HC0_2.out); rintro e w13 ⟨rfl, hb⟩; replace BK11 := Aside0.mk (blk_below (kM BK11.out) hb); replace HB := Aside0.mk (below_step (by exact wM HB.out) hb); (try clear hb); ))
    go_meet
    case rel => exact ⟨_, ((t14 != 0)), (by rfl), H', ⟨by omega⟩, ⟨kM BK11.out⟩, ⟨by repeat ((with_reducible first | exact HB.out ))⟩⟩
   ·replace c10 := Bool.eq_false_iff.mpr c10
    subst c10
    rw [if_neg (show ¬ (false = true) by decide)] at H
    have H' := Aside0.mk H
    clear H
    go_wp2
    go_meet
    case rel => exact ⟨_, (true), (by rfl), H', ⟨by omega⟩, ⟨kM BK11.out⟩, ⟨by repeat ((with_reducible first | exact HB.out | apply pw_below_drewN ))⟩⟩
  ·replace c9 := Bool.eq_false_iff.mpr c9
   subst c9
   rw [if_neg (show ¬ (false = true) by decide)] at H
   have H' := Aside0.mk H
   clear H
   go_wp2
   go_meet
   case rel => exact ⟨_, (true), (by rfl), H', ⟨by omega⟩, ⟨kM BK11.out⟩, ⟨by repeat ((with_reducible first | exact HB.out | apply pw_below_drewN ))⟩⟩
 case rest =>
  clear HC6
  obtain ⟨kq, x32_5, rfl, HA, HJ5, BK11, HB⟩ := hcut
  cases kq with
  | zero => exact absurd HA.out (by simp [roadbooklaw20_CallsReal.j0])
  | succ kj5 =>
   have H := HA.out
   clear HA
   simp only [roadbooklaw20_CallsReal.j0] at H
   by_cases c14 : x32_5 = true
   ·subst c14
    rw [if_pos rfl] at H
    obtain rfl := Option.some.inj H
    go_wp2
    go_ret
    exact ⟨by rfl, by repeat ((with_reducible first | exact HB.out ))⟩
   ·replace c14 := Bool.eq_false_iff.mpr c14
    subst c14
    rw [if_neg (show ¬ (false = true) by decide)] at H
    replace H := Option.bind_eq_some_iff.mp H
    obtain ⟨⟨t15, t18, t21, t24, t27⟩, A150, H⟩ := H
    replace H : (roadbooklaw20_CallsReal.l0 kj5 l1 t27 0 0) = some r := H
    have A15 := Aside0.mk A150
    clear A150
    have H' := Aside0.mk H
    clear H
    obtain ⟨hcz16_0, hcz16_1, hcz16_2, hfz16_0, hfz16_1, hfz16_2⟩ := bk3 BK11.out
    go_wp2_with (first | ((with_reducible refine gate_callee (f := 59) rfl ?_); refine goesL_ (some 38) rfl rfl Try.func59 (by kernel_rfl) rfl #[.agg #[.slice A0_0 l0_0.length c0_0, .slice A0_1 l0_1.length c0_1, .slice A0_2 l0_2.length c0_2], .slice A1 l1.length c1, .slice A2 l2.length c2] rfl (by (try simp only [List.map_toArray, List.map_cons, List.map_nil]); first | rfl ) ?_; (with_reducible refine (calls_Run.calls kj5 _ _ l0_0 _ _ l0_1 _ _ l0_2 _ _ l1 _ _ l2 t15 t18 t21 t24 t27 _ ?side1 ?side2 ?side3 ?side4 ?side5 ?side6 ?side7 ?side8 ?side9 ?side10 A15.out).mono ?_); (case side1 => exact cM (Kd.C_below HR0_0.out HB.out)); (case side2 => exact HC0_0.out); (case side3 => exact cM (Kd.C_below HR0_1.out HB.out)); (case side4 => exact HC0_1.out); (case side5 => exact cM (Kd.C_below HR0_2.out HB.out)); (case side6 => exact HC0_2.out); (case side7 => exact cM (Kd.C_below HR1.out HB.out)); (case side8 => exact HC1.out); (case side9 => exact cM (Kd.C_below HR2.out HB.out)); (case side10 => exact HC2.out); rintro e w17 ⟨v16, v19, v22, v25, v28, rfl, ho0, ho1, ho2, ho3, ho4, hb⟩; refine ⟨_, rfl, ?_⟩; have HO17 := Aside0.mk (Kd.R_lower ho0 (below_size (by exact wM HB.out))); have HO20 := Aside0.mk (Kd.R_lower ho1 (below_size (by exact wM HB.out))); have HO23 := Aside0.mk (Kd.R_lower ho2 (below_size (by exact wM HB.out))); have HO26 := Aside0.mk (Kd.S_lower ho3 (below_size (by exact wM HB.out))); have HO29 := Aside0.mk (Kd.R_lower ho4 (below_size (by exact wM HB.out))); replace BK11 := Aside0.mk (blk_below (kM BK11.out) hb); replace HB := Aside0.mk (below_step (by exact wM HB.out) hb); (try clear hb); (try clear ho0); (try clear ho1); (try clear ho2); (try clear ho3); (try clear ho4)) | ((with_reducible refine gate_dst (N := 9) rfl ?_); refine box_event ?hg (N := 9) ?hd (cs := #[.slice none 0 0, .slice none 0 0, .slice none 0 0]) (t := 38) ?hr ?_; (case hd => rfl); (case hg => rfl); (case hr => first | (go_simp; done) ); intro gb30 hg w18 hbox hb; replace HO17 := Aside0.mk (Kd.R_below (rM HO17.out) hb); replace HO20 := Aside0.mk (Kd.R_below (rM HO20.out) hb); replace HO23 := Aside0.mk (Kd.R_below (rM HO23.out) hb); replace HO26 := Aside0.mk (Kd.S_below (sM HO26.out) hb); replace HO29 := Aside0.mk (Kd.R_below (rM HO29.out) hb); have BK30 := Aside0.mk (hbox); have GW30 := Aside0.mk ((by rw [hg]; exact (below_size (by exact wM HB.out)) : w.heap.size ≤ gb30)); have GE30 := Aside0.mk ((by rw [hg]; exact (below_size (by exact wM HB.out)) : w.heap.size ≤ gb30)); replace HB := Aside0.mk (below_step (by exact wM HB.out) hb); have NB11_30 := Aside0.mk ((by rw [hg]; exact Nat.ne_of_lt (blk_lt (kM BK11.out)) : gb11 ≠ gb30)); have NB30_11 := Aside0.mk ((by rw [hg]; exact Nat.ne_of_gt (blk_lt (kM BK11.out)) : gb30 ≠ gb11)); replace BK11 := Aside0.mk (blk_below (kM BK11.out) hb); clear hb hbox hg; obtain ⟨Ao19, co19, eo19⟩ := Kd.R_slice HO17.out; subst eo19; have hnb20 := NB30_11.out; have hnc20 := NB11_30.out; obtain ⟨hcz21_0, hcz21_1, hcz21_2, hfz21_0, hfz21_1, hfz21_2⟩ := bk3 BK30.out; obtain ⟨Ao22, co22, eo22⟩ := Kd.R_slice HO20.out; subst eo22; obtain ⟨Ao23, co23, eo23⟩ := Kd.R_slice HO23.out; subst eo23))
    go_loopg [12, 13] kj5 (fun kq v12 v13 w' => ∃ (x12_2 : Int) (x13_2 : Int), v12 = .int .i64 x12_2 ∧ v13 = .int .i64 x13_2 ∧ Aside0 (roadbooklaw20_CallsReal.l0 kq l1 t27 x12_2 x13_2 = some r) ∧ Aside0 (kq ≤ kj5) ∧ Aside0 (Kd.R k68 68 w' w.heap.size (fun _ => True) v28 t27) ∧ Aside0 (Kd.R k48 48 w' w.heap.size (fun _ => True) (.slice Ao19 t15.length co19) t15) ∧ Aside0 (Kd.R (Kd.int .i64) 3 w' w.heap.size (fun k_ => some k_ ≠ ((.slice Ao23 t21.length co23) : Value).ownBlock) (.slice Ao22 t18.length co22) t18) ∧ Aside0 (Kd.R (Kd.int .i64) 3 w' w.heap.size (fun k_ => some k_ ≠ ((.slice Ao22 t18.length co22) : Value).ownBlock) (.slice Ao23 t21.length co23) t21) ∧ Aside0 (w'.heap[gb11]? = some (.cells #[(.slice A0_0 l0_0.length c0_0), (.slice A0_1 l0_1.length c0_1), (.slice A0_2 l0_2.length c0_2)] 38 (0, 0))) ∧ Aside0 (w'.heap[gb30]? = some (.cells #[(.slice Ao19 t15.length co19), (.slice Ao22 t18.length co22), (.slice Ao23 t21.length co23)] 38 (0, 0))) ∧ Aside0 (Below w.heap.size w w'))
    case atStart => exact ⟨(0), (0), (by rfl), (by rfl), H', ⟨Nat.le_refl _⟩, ⟨by (with_reducible repeat (first | apply Kd.R_alloc | apply Kd.R_drewN | apply Kd.R_drew)); exact Kd.R_mono (Kd.R_far (p := ⟨gb30, 2, none⟩) (Kd.R_far (p := ⟨gb30, 1, none⟩) (Kd.R_far (p := ⟨gb30, 0, none⟩) (Kd.R_types HO29.out BK30.out (by decide)) (fun _ hk => hk.2) (.slice Ao19 t15.length co19)) (fun _ hk => hk.2) (.slice Ao22 t18.length co22)) (fun _ hk => hk.2) (.slice Ao23 t21.length co23)) (fun _ hk => trivial)⟩, ⟨by (with_reducible repeat (first | apply Kd.R_alloc | apply Kd.R_drewN | apply Kd.R_drew)); exact Kd.R_mono (Kd.R_far (p := ⟨gb30, 2, none⟩) (Kd.R_far (p := ⟨gb30, 1, none⟩) (Kd.R_far (p := ⟨gb30, 0, none⟩) (Kd.R_types HO17.out BK30.out (by decide)) (fun _ hk => hk.2) (.slice Ao19 t15.length co19)) (fun _ hk => hk.2) (.slice Ao22 t18.length co22)) (fun _ hk => hk.2) (.slice Ao23 t21.length co23)) (fun _ hk => trivial)⟩, ⟨by (with_reducible repeat (first | apply Kd.R_alloc | apply Kd.R_drewN | apply Kd.R_drew)); exact Kd.R_mono (Kd.R_far (p := ⟨gb30, 2, none⟩) (Kd.R_far (p := ⟨gb30, 1, none⟩) (Kd.R_far (p := ⟨gb30, 0, none⟩) (Kd.R_types HO20.out BK30.out (by decide)) (fun _ hk => hk.2) (.slice Ao19 t15.length co19)) (fun _ hk => hk.2) (.slice Ao22 t18.length co22)) (fun _ hk => hk.2) (.slice Ao23 t21.length co23)) (fun _ hk => hk.1)⟩, ⟨by (with_reducible repeat (first | apply Kd.R_alloc | apply Kd.R_drewN | apply Kd.R_drew)); exact Kd.R_mono (Kd.R_far (p := ⟨gb30, 2, none⟩) (Kd.R_far (p := ⟨gb30, 1, none⟩) (Kd.R_far (p := ⟨gb30, 0, none⟩) (Kd.R_types HO23.out BK30.out (by decide)) (fun _ hk => hk.2) (.slice Ao19 t15.length co19)) (fun _ hk => hk.2) (.slice Ao22 t18.length co22)) (fun _ hk => hk.2) (.slice Ao23 t21.length co23)) (fun _ hk => hk.1)⟩, ⟨by (with_reducible repeat (first | refine blk_drewN ?_ _ | refine blk_drew ?_ | refine blk_alloc ?_ _)); refine blk_far ?_ NB11_30.out _; (with_reducible repeat (first | refine blk_drewN ?_ _ | refine blk_drew ?_ | refine blk_alloc ?_ _)); refine blk_far ?_ NB11_30.out _; (with_reducible repeat (first | refine blk_drewN ?_ _ | refine blk_drew ?_ | refine blk_alloc ?_ _)); refine blk_far ?_ NB11_30.out _; (with_reducible repeat (first | refine blk_drewN ?_ _ | refine blk_drew ?_ | refine blk_alloc ?_ _)); exact BK11.out⟩, ⟨by (with_reducible repeat (first | refine blk_drewN ?_ _ | refine blk_drew ?_ | refine blk_alloc ?_ _)); refine blk_put (cs := #[.slice Ao19 t15.length co19, .slice Ao22 t18.length co22, .slice none 0 0]) ?_ 2 _ rfl; (with_reducible repeat (first | refine blk_drewN ?_ _ | refine blk_drew ?_ | refine blk_alloc ?_ _)); refine blk_put (cs := #[.slice Ao19 t15.length co19, .slice none 0 0, .slice none 0 0]) ?_ 1 _ rfl; (with_reducible repeat (first | refine blk_drewN ?_ _ | refine blk_drew ?_ | refine blk_alloc ?_ _)); refine blk_put (cs := #[.slice none 0 0, .slice none 0 0, .slice none 0 0]) ?_ 0 _ rfl; (with_reducible repeat (first | refine blk_drewN ?_ _ | refine blk_drew ?_ | refine blk_alloc ?_ _)); exact BK30.out⟩, ⟨by repeat ((with_reducible first | exact HB.out | refine below_set ?_ GE30.out))⟩⟩
    case round =>
     clear H'
     try clear hcz16_0
     try clear hcz16_1
     try clear hcz16_2
     try clear hcz21_0
     try clear hcz21_1
     try clear hcz21_2
     try clear hfz16_0
     try clear hfz16_1
     try clear hfz16_2
     try clear hfz21_0
     try clear hfz21_1
     try clear hfz21_2
     obtain ⟨x12_2, x13_2, rfl, rfl, HA, HK2, HO_11, HO_31000, HO_31001, HO_31002, BK11, BK30, HB⟩ := hrel
     cases gk with
     | zero => exact absurd HA.out (by simp [roadbooklaw20_CallsReal.l0])
     | succ k2 =>
      have H := HA.out
      clear HA
      simp only [roadbooklaw20_CallsReal.l0] at H
      by_cases c24 : x13_2 < (l1.length : Int)
      ·rw [if_pos c24] at H
       have c24b0 : decide (x13_2 < (l1.length : Int)) = true := decide_eq_true c24
       clear c24
       by_cases c25 : 0 ≤ x13_2
       ·rw [if_pos c25] at H
        have c25b0 : decide (0 ≤ x13_2) = true := decide_eq_true c25
        clear c25
        have H' := Aside0.mk H
        clear H
        have p31 : 0 ≤ (x13_2 : Int) := of_decide_eq_true (by (with_reducible assumption))
        have q31 : x13_2 < (l1.length : Int) := of_decide_eq_true (by (with_reducible assumption))
        obtain ⟨ad31, A31_0, c31_0, e31, hx31_0, hl31_0, hi31_0⟩ := at_L5 HR1.out x13_2 p31 q31
        cases e31
        replace hx31_0 := (HB.out.cell (World.block_lt_of_cell? w _ hx31_0)).trans hx31_0
        have HR31_0 := Aside0.mk hi31_0
        have HC31_0 := Aside0.mk hl31_0
        clear hi31_0 hl31_0
        replace p31 := eq_true p31
        replace q31 := eq_true q31
        go_wp2
        go_roundg k2
        case measure => have := HJ5.out; have := HK2.out; omega
        case rel => exact ⟨(wrap64 (x12_2 + (wrap64 (3 * ((rd_L5 l1 x13_2).length : Int))))), (wrap64 (x13_2 + 1)), (by rfl), (by rfl), H', ⟨by have := HJ5.out; have := HK2.out; omega⟩, ⟨by (with_reducible repeat (first | apply Kd.R_alloc | apply Kd.R_drewN | apply Kd.R_drew)); exact HO_11.out⟩, ⟨by (with_reducible repeat (first | apply Kd.R_alloc | apply Kd.R_drewN | apply Kd.R_drew)); exact HO_31000.out⟩, ⟨by (with_reducible repeat (first | apply Kd.R_alloc | apply Kd.R_drewN | apply Kd.R_drew)); exact HO_31001.out⟩, ⟨by (with_reducible repeat (first | apply Kd.R_alloc | apply Kd.R_drewN | apply Kd.R_drew)); exact HO_31002.out⟩, ⟨kM BK11.out⟩, ⟨kM BK30.out⟩, ⟨by repeat ((with_reducible first | exact HB.out ))⟩⟩
       ·rw [if_neg c25] at H
        exact absurd H (by simp)
      ·rw [if_neg c24] at H
       have c24b0 : decide (x13_2 < (l1.length : Int)) = false := decide_eq_false c24
       clear c24
       by_cases c26 : (t27.length : Int) = x12_2
       ·rw [if_pos c26] at H
        have c26b0 : ((t27.length : Int) == x12_2) = true := beq_iff_eq.mpr c26
        have c26b1 : ((t27.length : Int) != x12_2) = false := bne_eq_false_iff_eq.mpr c26
        clear c26
        have H' := Aside0.mk H
        clear H
        obtain ⟨Ao27, co27, eo27⟩ := Kd.R_slice HO_11.out
        subst eo27
        go_wp2
        go_loopg [14] k2 (fun kq v14 w' => ∃ (x14_3 : Int), v14 = .int .i64 x14_3 ∧ Aside0 (roadbooklaw20_CallsReal.l1 kq t27 x14_3 = some r) ∧ Aside0 (kq ≤ k2) ∧ Aside0 (Kd.R k68 68 w' w.heap.size (fun _ => True) (.slice Ao27 t27.length co27) t27) ∧ Aside0 (Kd.R k48 48 w' w.heap.size (fun _ => True) (.slice Ao19 t15.length co19) t15) ∧ Aside0 (Kd.R (Kd.int .i64) 3 w' w.heap.size (fun k_ => some k_ ≠ ((.slice Ao23 t21.length co23) : Value).ownBlock) (.slice Ao22 t18.length co22) t18) ∧ Aside0 (Kd.R (Kd.int .i64) 3 w' w.heap.size (fun k_ => some k_ ≠ ((.slice Ao22 t18.length co22) : Value).ownBlock) (.slice Ao23 t21.length co23) t21) ∧ Aside0 (w'.heap[gb11]? = some (.cells #[(.slice A0_0 l0_0.length c0_0), (.slice A0_1 l0_1.length c0_1), (.slice A0_2 l0_2.length c0_2)] 38 (0, 0))) ∧ Aside0 (w'.heap[gb30]? = some (.cells #[(.slice Ao19 t15.length co19), (.slice Ao22 t18.length co22), (.slice Ao23 t21.length co23)] 38 (0, 0))) ∧ Aside0 (Below w.heap.size w w'))
        case atStart => exact ⟨(0), (by rfl), H', ⟨Nat.le_refl _⟩, ⟨by (with_reducible repeat (first | apply Kd.R_alloc | apply Kd.R_drewN | apply Kd.R_drew)); exact HO_11.out⟩, ⟨by (with_reducible repeat (first | apply Kd.R_alloc | apply Kd.R_drewN | apply Kd.R_drew)); exact HO_31000.out⟩, ⟨by (with_reducible repeat (first | apply Kd.R_alloc | apply Kd.R_drewN | apply Kd.R_drew)); exact HO_31001.out⟩, ⟨by (with_reducible repeat (first | apply Kd.R_alloc | apply Kd.R_drewN | apply Kd.R_drew)); exact HO_31002.out⟩, ⟨kM BK11.out⟩, ⟨kM BK30.out⟩, ⟨by repeat ((with_reducible first | exact HB.out ))⟩⟩
        case round =>
         clear H'
         try clear c24b0
         try clear c26b0
         try clear c26b1
         obtain ⟨x14_3, rfl, HA, HK3, HO_11, HO_31000, HO_31001, HO_31002, BK11, BK30, HB⟩ := hrel
         cases gk with
         | zero => exact absurd HA.out (by simp [roadbooklaw20_CallsReal.l1])
         | succ k3 =>
          have H := HA.out
          clear HA
          simp only [roadbooklaw20_CallsReal.l1] at H
          by_cases c28 : x14_3 < (t27.length : Int)
          ·rw [if_pos c28] at H
           have c28b0 : decide (x14_3 < (t27.length : Int)) = true := decide_eq_true c28
           clear c28
           by_cases c29 : 0 ≤ x14_3
           ·rw [if_pos c29] at H
            have c29b0 : decide (0 ≤ x14_3) = true := decide_eq_true c29
            clear c29
            by_cases c30 : ((rd_T68 t27 x14_3).f2) = 2
            ·rw [if_pos c30] at H
             have c30b0 : (((rd_T68 t27 x14_3).f2) == 2) = true := beq_iff_eq.mpr c30
             have c30b1 : (((rd_T68 t27 x14_3).f2) != 2) = false := bne_eq_false_iff_eq.mpr c30
             clear c30
             have H' := Aside0.mk H
             clear H
             have p32 : 0 ≤ (x14_3 : Int) := of_decide_eq_true (by (with_reducible assumption))
             have q32 : x14_3 < (t27.length : Int) := of_decide_eq_true (by (with_reducible assumption))
             obtain ⟨ad32, e32, hx32_0, hx32_1, hx32_2⟩ := at_T68 (Kd.R_reads' HO_11.out).2.2 x14_3 p32 q32
             cases e32
             replace p32 := eq_true p32
             replace q32 := eq_true q32
             go_wp2
             go_loopg [15] k3 (fun kq v15 w' => ∃ (x15_4 : Int), v15 = .int .i64 x15_4 ∧ Aside0 (roadbooklaw20_CallsReal.l2 kq t27 x14_3 x15_4 = some r) ∧ Aside0 (kq ≤ k3) ∧ Aside0 (Kd.R k68 68 w' w.heap.size (fun _ => True) (.slice (some ad32) t27.length co27) t27) ∧ Aside0 (Kd.R k48 48 w' w.heap.size (fun _ => True) (.slice Ao19 t15.length co19) t15) ∧ Aside0 (Kd.R (Kd.int .i64) 3 w' w.heap.size (fun k_ => some k_ ≠ ((.slice Ao23 t21.length co23) : Value).ownBlock) (.slice Ao22 t18.length co22) t18) ∧ Aside0 (Kd.R (Kd.int .i64) 3 w' w.heap.size (fun k_ => some k_ ≠ ((.slice Ao22 t18.length co22) : Value).ownBlock) (.slice Ao23 t21.length co23) t21) ∧ Aside0 (w'.heap[gb11]? = some (.cells #[(.slice A0_0 l0_0.length c0_0), (.slice A0_1 l0_1.length c0_1), (.slice A0_2 l0_2.length c0_2)] 38 (0, 0))) ∧ Aside0 (w'.heap[gb30]? = some (.cells #[(.slice Ao19 t15.length co19), (.slice Ao22 t18.length co22), (.slice Ao23 t21.length co23)] 38 (0, 0))) ∧ Aside0 (Below w.heap.size w w'))
             case atStart => exact ⟨(wrap64 (x14_3 + 1)), (by rfl), H', ⟨Nat.le_refl _⟩, ⟨by (with_reducible repeat (first | apply Kd.R_alloc | apply Kd.R_drewN | apply Kd.R_drew)); exact HO_11.out⟩, ⟨by (with_reducible repeat (first | apply Kd.R_alloc | apply Kd.R_drewN | apply Kd.R_drew)); exact HO_31000.out⟩, ⟨by (with_reducible repeat (first | apply Kd.R_alloc | apply Kd.R_drewN | apply Kd.R_drew)); exact HO_31001.out⟩, ⟨by (with_reducible repeat (first | apply Kd.R_alloc | apply Kd.R_drewN | apply Kd.R_drew)); exact HO_31002.out⟩, ⟨kM BK11.out⟩, ⟨kM BK30.out⟩, ⟨by repeat ((with_reducible first | exact HB.out ))⟩⟩
             case round =>
              clear H'
              try clear c28b0
              try clear c29b0
              try clear c30b0
              try clear c30b1
              try clear hx32_0
              try clear hx32_1
              try clear hx32_2
              try clear p32
              try clear q32
              obtain ⟨x15_4, rfl, HA, HK4, HO_11, HO_31000, HO_31001, HO_31002, BK11, BK30, HB⟩ := hrel
              cases gk with
              | zero => exact absurd HA.out (by simp [roadbooklaw20_CallsReal.l2])
              | succ k4 =>
               have H := HA.out
               clear HA
               simp only [roadbooklaw20_CallsReal.l2] at H
               by_cases c31 : x15_4 < (t27.length : Int)
               ·rw [if_pos c31] at H
                have c31b0 : decide (x15_4 < (t27.length : Int)) = true := decide_eq_true c31
                clear c31
                have HC32 := Aside0.mk H
                clear H
                go_upto_region 20 with (fail)
                go_cut [103] (fun v103 wc => ∃ (kq : Nat) (x103_31 : Bool), v103 = .bool x103_31 ∧ Aside0 (roadbooklaw20_CallsReal.j4 kq t27 x14_3 x15_4 x103_31 = some r) ∧ Aside0 (kq ≤ k4) ∧ Aside0 (Kd.R k68 68 wc w.heap.size (fun _ => True) (.slice (some ad32) t27.length co27) t27) ∧ Aside0 (Kd.R k48 48 wc w.heap.size (fun _ => True) (.slice Ao19 t15.length co19) t15) ∧ Aside0 (Kd.R (Kd.int .i64) 3 wc w.heap.size (fun k_ => some k_ ≠ ((.slice Ao23 t21.length co23) : Value).ownBlock) (.slice Ao22 t18.length co22) t18) ∧ Aside0 (Kd.R (Kd.int .i64) 3 wc w.heap.size (fun k_ => some k_ ≠ ((.slice Ao22 t18.length co22) : Value).ownBlock) (.slice Ao23 t21.length co23) t21) ∧ Aside0 (wc.heap[gb11]? = some (.cells #[(.slice A0_0 l0_0.length c0_0), (.slice A0_1 l0_1.length c0_1), (.slice A0_2 l0_2.length c0_2)] 38 (0, 0))) ∧ Aside0 (wc.heap[gb30]? = some (.cells #[(.slice Ao19 t15.length co19), (.slice Ao22 t18.length co22), (.slice Ao23 t21.length co23)] 38 (0, 0))) ∧ Aside0 (Below w.heap.size w wc))
                case first =>
                 have H := HC32.out
                 clear HC32
                 by_cases c33 : 0 ≤ x15_4
                 ·rw [if_pos c33] at H
                  have c33b0 : decide (0 ≤ x15_4) = true := decide_eq_true c33
                  clear c33
                  (skip)
                  by_cases c34 : 0 ≤ x14_3
                  ·rw [if_pos c34] at H
                   have c34b0 : decide (0 ≤ x14_3) = true := decide_eq_true c34
                   clear c34
                   by_cases c35 : x14_3 < (t27.length : Int)
                   ·rw [if_pos c35] at H
                    have c35b0 : decide (x14_3 < (t27.length : Int)) = true := decide_eq_true c35
                    clear c35
                    by_cases c36 : ((rd_T68 t27 x15_4).f0) = ((rd_T68 t27 x14_3).f0)
                    ·rw [if_pos c36] at H
                     have c36b0 : (((rd_T68 t27 x15_4).f0) == ((rd_T68 t27 x14_3).f0)) = true := beq_iff_eq.mpr c36
                     have c36b1 : (((rd_T68 t27 x15_4).f0) != ((rd_T68 t27 x14_3).f0)) = false := bne_eq_false_iff_eq.mpr c36
                     clear c36
                     have H' := Aside0.mk H
                     clear H
                     try go_wp2
                     replace HO_11 := Aside0.mk (Kd.R_drew HO_11.out)
                     replace HO_31000 := Aside0.mk (Kd.R_drew HO_31000.out)
                     replace HO_31001 := Aside0.mk (Kd.R_drew HO_31001.out)
                     replace HO_31002 := Aside0.mk (Kd.R_drew HO_31002.out)
                     replace BK11 := Aside0.mk (blk_drew BK11.out)
                     replace BK30 := Aside0.mk (blk_drew BK30.out)
                     replace HB := Aside0.mk (below_drew1 HB.out)
                     have p33 : 0 ≤ (x15_4 : Int) := of_decide_eq_true (by (with_reducible assumption))
                     have q33 : x15_4 < (t27.length : Int) := of_decide_eq_true (by (with_reducible assumption))
                     obtain ⟨ad33, e33, hx33_0, hx33_1, hx33_2⟩ := at_T68 (Kd.R_reads' HO_11.out).2.2 x15_4 p33 q33
                     obtain rfl : ad32 = ad33 := (by injection e33)
                     replace p33 := eq_true p33
                     replace q33 := eq_true q33
                     have p34 : 0 ≤ (x14_3 : Int) := of_decide_eq_true (by (with_reducible assumption))
                     have q34 : x14_3 < (t27.length : Int) := of_decide_eq_true (by (with_reducible assumption))
                     obtain ⟨ad34, e34, hx34_0, hx34_1, hx34_2⟩ := at_T68 (Kd.R_reads' HO_11.out).2.2 x14_3 p34 q34
                     obtain rfl : ad32 = ad34 := (by injection e34)
                     replace p34 := eq_true p34
                     replace q34 := eq_true q34
                     have p35 : 0 ≤ (x15_4 : Int) := of_decide_eq_true (by (with_reducible assumption))
                     have q35 : x15_4 < (t27.length : Int) := of_decide_eq_true (by (with_reducible assumption))
                     obtain ⟨ad35, e35, hx35_0, hx35_1, hx35_2⟩ := at_T68 (Kd.R_reads' HO_11.out).2.2 x15_4 p35 q35
                     obtain rfl : ad32 = ad35 := (by injection e35)
                     replace p35 := eq_true p35
                     replace q35 := eq_true q35
                     have p36 : 0 ≤ (x14_3 : Int) := of_decide_eq_true (by (with_reducible assumption))
                     have q36 : x14_3 < (t27.length : Int) := of_decide_eq_true (by (with_reducible assumption))
                     obtain ⟨ad36, e36, hx36_0, hx36_1, hx36_2⟩ := at_T68 (Kd.R_reads' HO_11.out).2.2 x14_3 p36 q36
                     obtain rfl : ad32 = ad36 := (by injection e36)
                     replace p36 := eq_true p36
                     replace q36 := eq_true q36
                     refine start_ (n := 24) (S := fun w' => w'.cell? (ad32.add ((x15_4).toNat * 3)) = some (.int .i64 ((rd_T68 t27 x15_4).f0)) ∧ w'.cell? ⟨(ad32.add ((x15_4).toNat * 3)).block, (ad32.add ((x15_4).toNat * 3)).off + 1, none⟩ = some (.int .i64 ((rd_T68 t27 x15_4).f1)) ∧ w'.cell? ⟨(ad32.add ((x15_4).toNat * 3)).block, (ad32.add ((x15_4).toNat * 3)).off + 2, none⟩ = some (.int .i64 ((rd_T68 t27 x15_4).f2)) ∧ w'.cell? (ad32.add ((x14_3).toNat * 3)) = some (.int .i64 ((rd_T68 t27 x14_3).f0)) ∧ w'.cell? ⟨(ad32.add ((x14_3).toNat * 3)).block, (ad32.add ((x14_3).toNat * 3)).off + 1, none⟩ = some (.int .i64 ((rd_T68 t27 x14_3).f1)) ∧ w'.cell? ⟨(ad32.add ((x14_3).toNat * 3)).block, (ad32.add ((x14_3).toNat * 3)).off + 2, none⟩ = some (.int .i64 ((rd_T68 t27 x14_3).f2)) ∧ w'.cell? (ad32.add ((x15_4).toNat * 3)) = some (.int .i64 ((rd_T68 t27 x15_4).f0)) ∧ w'.cell? ⟨(ad32.add ((x15_4).toNat * 3)).block, (ad32.add ((x15_4).toNat * 3)).off + 1, none⟩ = some (.int .i64 ((rd_T68 t27 x15_4).f1)) ∧ w'.cell? ⟨(ad32.add ((x15_4).toNat * 3)).block, (ad32.add ((x15_4).toNat * 3)).off + 2, none⟩ = some (.int .i64 ((rd_T68 t27 x15_4).f2)) ∧ w'.cell? (ad32.add ((x14_3).toNat * 3)) = some (.int .i64 ((rd_T68 t27 x14_3).f0)) ∧ w'.cell? ⟨(ad32.add ((x14_3).toNat * 3)).block, (ad32.add ((x14_3).toNat * 3)).off + 1, none⟩ = some (.int .i64 ((rd_T68 t27 x14_3).f1)) ∧ w'.cell? ⟨(ad32.add ((x14_3).toNat * 3)).block, (ad32.add ((x14_3).toNat * 3)).off + 2, none⟩ = some (.int .i64 ((rd_T68 t27 x14_3).f2))) (ds := []) #[false, false, false, false, false, false, false, false, false, false, false, false, false, false, false, false, false, false, false, false, false, false, false, false] (by kernel_rfl) rfl rfl ⟨hx33_0, hx33_1, hx33_2, hx34_0, hx34_1, hx34_2, hx35_0, hx35_1, hx35_2, hx36_0, hx36_1, hx36_2⟩ (fun hHeld => ?_); refine with_tabW roadbooklaw20_CallsReal.tab20 roadbooklaw20_CallsReal.bits20 (fun HT_ HW_ => ?_)
                     generalize wr.drew = w37 at HO_11 HO_31000 HO_31001 HO_31002 BK11 BK30 HB hx33_0 hx33_1 hx33_2 hx34_0 hx34_1 hx34_2 hx35_0 hx35_1 hx35_2 hx36_0 hx36_1 hx36_2 hHeld ⊢
                     refine pure_ (i := 0) (N := some 80) (v := ?_) (a' := ?_) #[true, false, false, false, false, false, false, false, false, false, false, false, false, false, false, false, false, false, false, false, false, false, false, false] rfl rfl (any_of HT_.out (by kernel_rfl)) (fun _ _ _ h => h) (Or.inl ⟨by rfl, ?_⟩) ?_ ?_
                     rotate_left
                     ·intro w'
                      go_simp
                      with_reducible rfl
                     rotate_left
                     ·simp only [Act.put, List.setIfInBounds_toArray, List.set_cons_zero, List.set_cons_succ, i64_w, i32_w]
                      rfl
                     refine pure_ (i := 1) (N := some 81) (v := ?_) (a' := ?_) #[true, true, false, false, false, false, false, false, false, false, false, false, false, false, false, false, false, false, false, false, false, false, false, false] rfl rfl (any_of HT_.out (by kernel_rfl)) (fun _ _ _ h => h) (Or.inl ⟨by rfl, ?_⟩) ?_ ?_
                     rotate_left
                     ·intro w'
                      go_simp
                      with_reducible rfl
                     rotate_left
                     ·simp only [Act.put, List.setIfInBounds_toArray, List.set_cons_zero, List.set_cons_succ, i64_w, i32_w]
                      rfl
                     refine pure_ (i := 2) (N := some 82) (v := ?_) (a' := ?_) #[true, true, true, false, false, false, false, false, false, false, false, false, false, false, false, false, false, false, false, false, false, false, false, false] rfl rfl (any_of HT_.out (by kernel_rfl)) (fun _ _ _ h => h) (Or.inl ⟨by rfl, ?_⟩) ?_ ?_
                     rotate_left
                     ·intro w'
                      go_simp
                      with_reducible rfl
                     rotate_left
                     ·simp only [Act.put, List.setIfInBounds_toArray, List.set_cons_zero, List.set_cons_succ, i64_w, i32_w]
                      rfl
                     refine pure_ (i := 3) (N := some 83) (v := ?_) (a' := ?_) #[true, true, true, true, false, false, false, false, false, false, false, false, false, false, false, false, false, false, false, false, false, false, false, false] rfl rfl (any_of HT_.out (by kernel_rfl)) (fun _ _ _ h => h) (Or.inl ⟨by rfl, ?_⟩) ?_ ?_
                     rotate_left
                     ·intro w'
                      go_simp
                      with_reducible rfl
                     rotate_left
                     ·simp only [Act.put, List.setIfInBounds_toArray, List.set_cons_zero, List.set_cons_succ, i64_w, i32_w]
                      rfl
                     refine pure_ (i := 5) (N := some 85) (v := ?_) (a' := ?_) #[true, true, true, true, false, true, false, false, false, false, false, false, false, false, false, false, false, false, false, false, false, false, false, false] rfl rfl (any_of HT_.out (by kernel_rfl)) (fun _ _ _ h => h) (Or.inl ⟨by rfl, ?_⟩) ?_ ?_
                     rotate_left
                     ·intro w'
                      go_simp
                      with_reducible rfl
                     rotate_left
                     ·simp only [Act.put, List.setIfInBounds_toArray, List.set_cons_zero, List.set_cons_succ, i64_w, i32_w]
                      rfl
                     refine pure_ (i := 6) (N := some 86) (v := ?_) (a' := ?_) #[true, true, true, true, false, true, true, false, false, false, false, false, false, false, false, false, false, false, false, false, false, false, false, false] rfl rfl (any_of HT_.out (by kernel_rfl)) (fun _ _ _ h => h) (Or.inl ⟨by rfl, ?_⟩) ?_ ?_
                     rotate_left
                     ·intro w'
                      go_simp
                      with_reducible rfl
                     rotate_left
                     ·simp only [Act.put, List.setIfInBounds_toArray, List.set_cons_zero, List.set_cons_succ, i64_w, i32_w]
                      rfl
                     refine pure_ (i := 7) (N := some 87) (v := ?_) (a' := ?_) #[true, true, true, true, false, true, true, true, false, false, false, false, false, false, false, false, false, false, false, false, false, false, false, false] rfl rfl (any_of HT_.out (by kernel_rfl)) (fun _ _ _ h => h) (Or.inl ⟨by rfl, ?_⟩) ?_ ?_
                     rotate_left
                     ·intro w'
                      go_simp
                      with_reducible rfl
                     rotate_left
                     ·simp only [Act.put, List.setIfInBounds_toArray, List.set_cons_zero, List.set_cons_succ, i64_w, i32_w]
                      rfl
                     refine pure_ (i := 8) (N := some 88) (v := ?_) (a' := ?_) #[true, true, true, true, false, true, true, true, true, false, false, false, false, false, false, false, false, false, false, false, false, false, false, false] rfl rfl (any_of HT_.out (by kernel_rfl)) (fun _ _ _ h => h) (Or.inl ⟨by rfl, ?_⟩) ?_ ?_
                     rotate_left
                     ·intro w'
                      go_simp
                      with_reducible rfl
                     rotate_left
                     ·simp only [Act.put, List.setIfInBounds_toArray, List.set_cons_zero, List.set_cons_succ, i64_w, i32_w]
                      rfl
                     refine take_ (i := 4) (N := some 84) (v := ?_) (a' := ?_) #[true, true, true, true, true, true, true, true, true, false, false, false, false, false, false, false, false, false, false, false, false, false, false, false] rfl rfl (take_ofW HT_.out HW_.out (by kernel_rfl)) (fun _ _ _ h => h) (Or.inl ⟨by rfl, ?_⟩) hHeld ?_ ?_
                     rotate_left
                     ·rintro w' ⟨s0, s1, s2, s3, s4, s5, s6, s7, s8, s9, s10, s11⟩
                      go_simp
                      with_reducible rfl
                     rotate_left
                     ·simp only [Act.put, List.setIfInBounds_toArray, List.set_cons_zero, List.set_cons_succ, i64_w, i32_w]
                      rfl
                     refine take_ (i := 9) (N := some 89) (v := ?_) (a' := ?_) #[true, true, true, true, true, true, true, true, true, true, false, false, false, false, false, false, false, false, false, false, false, false, false, false] rfl rfl (take_ofW HT_.out HW_.out (by kernel_rfl)) (fun _ _ _ h => h) (Or.inl ⟨by rfl, ?_⟩) hHeld ?_ ?_
                     rotate_left
                     ·rintro w' ⟨s0, s1, s2, s3, s4, s5, s6, s7, s8, s9, s10, s11⟩
                      go_simp
                      with_reducible rfl
                     rotate_left
                     ·simp only [Act.put, List.setIfInBounds_toArray, List.set_cons_zero, List.set_cons_succ, i64_w, i32_w]
                      rfl
                     refine pure_ (i := 10) (N := some 90) (v := ?_) (a' := ?_) #[true, true, true, true, true, true, true, true, true, true, true, false, false, false, false, false, false, false, false, false, false, false, false, false] rfl rfl (any_of HT_.out (by kernel_rfl)) (fun _ _ _ h => h) (Or.inl ⟨by rfl, ?_⟩) ?_ ?_
                     rotate_left
                     ·intro w'
                      go_simp
                      with_reducible rfl
                     rotate_left
                     ·simp only [Act.put, List.setIfInBounds_toArray, List.set_cons_zero, List.set_cons_succ, i64_w, i32_w]
                      rfl
                     refine pure_ (i := 11) (N := some 91) (v := ?_) (a' := ?_) #[true, true, true, true, true, true, true, true, true, true, true, true, false, false, false, false, false, false, false, false, false, false, false, false] rfl rfl (any_of HT_.out (by kernel_rfl)) (fun _ _ _ h => h) (Or.inl ⟨by rfl, ?_⟩) ?_ ?_
                     rotate_left
                     ·intro w'
                      go_simp
                      with_reducible rfl
                     rotate_left
                     ·simp only [Act.put, List.setIfInBounds_toArray, List.set_cons_zero, List.set_cons_succ, i64_w, i32_w]
                      rfl
                     refine pure_ (i := 12) (N := some 92) (v := ?_) (a' := ?_) #[true, true, true, true, true, true, true, true, true, true, true, true, true, false, false, false, false, false, false, false, false, false, false, false] rfl rfl (any_of HT_.out (by kernel_rfl)) (fun _ _ _ h => h) (Or.inl ⟨by rfl, ?_⟩) ?_ ?_
                     rotate_left
                     ·intro w'
                      go_simp
                      with_reducible rfl
                     rotate_left
                     ·simp only [Act.put, List.setIfInBounds_toArray, List.set_cons_zero, List.set_cons_succ, i64_w, i32_w]
                      rfl
                     refine pure_ (i := 13) (N := some 93) (v := ?_) (a' := ?_) #[true, true, true, true, true, true, true, true, true, true, true, true, true, true, false, false, false, false, false, false, false, false, false, false] rfl rfl (any_of HT_.out (by kernel_rfl)) (fun _ _ _ h => h) (Or.inl ⟨by rfl, ?_⟩) ?_ ?_
                     rotate_left
                     ·intro w'
                      go_simp
                      with_reducible rfl
                     rotate_left
                     ·simp only [Act.put, List.setIfInBounds_toArray, List.set_cons_zero, List.set_cons_succ, i64_w, i32_w]
                      rfl
                     refine pure_ (i := 14) (N := some 94) (v := ?_) (a' := ?_) #[true, true, true, true, true, true, true, true, true, true, true, true, true, true, true, false, false, false, false, false, false, false, false, false] rfl rfl (any_of HT_.out (by kernel_rfl)) (fun _ _ _ h => h) (Or.inl ⟨by rfl, ?_⟩) ?_ ?_
                     rotate_left
                     ·intro w'
                      go_simp
                      with_reducible rfl
                     rotate_left
                     ·simp only [Act.put, List.setIfInBounds_toArray, List.set_cons_zero, List.set_cons_succ, i64_w, i32_w]
                      rfl
                     refine pure_ (i := 15) (N := some 95) (v := ?_) (a' := ?_) #[true, true, true, true, true, true, true, true, true, true, true, true, true, true, true, true, false, false, false, false, false, false, false, false] rfl rfl (any_of HT_.out (by kernel_rfl)) (fun _ _ _ h => h) (Or.inl ⟨by rfl, ?_⟩) ?_ ?_
                     rotate_left
                     ·intro w'
                      go_simp
                      with_reducible rfl
                     rotate_left
                     ·simp only [Act.put, List.setIfInBounds_toArray, List.set_cons_zero, List.set_cons_succ, i64_w, i32_w]
                      rfl
                     refine pure_ (i := 17) (N := some 97) (v := ?_) (a' := ?_) #[true, true, true, true, true, true, true, true, true, true, true, true, true, true, true, true, false, true, false, false, false, false, false, false] rfl rfl (any_of HT_.out (by kernel_rfl)) (fun _ _ _ h => h) (Or.inl ⟨by rfl, ?_⟩) ?_ ?_
                     rotate_left
                     ·intro w'
                      go_simp
                      with_reducible rfl
                     rotate_left
                     ·simp only [Act.put, List.setIfInBounds_toArray, List.set_cons_zero, List.set_cons_succ, i64_w, i32_w]
                      rfl
                     refine pure_ (i := 18) (N := some 98) (v := ?_) (a' := ?_) #[true, true, true, true, true, true, true, true, true, true, true, true, true, true, true, true, false, true, true, false, false, false, false, false] rfl rfl (any_of HT_.out (by kernel_rfl)) (fun _ _ _ h => h) (Or.inl ⟨by rfl, ?_⟩) ?_ ?_
                     rotate_left
                     ·intro w'
                      go_simp
                      with_reducible rfl
                     rotate_left
                     ·simp only [Act.put, List.setIfInBounds_toArray, List.set_cons_zero, List.set_cons_succ, i64_w, i32_w]
                      rfl
                     refine pure_ (i := 19) (N := some 99) (v := ?_) (a' := ?_) #[true, true, true, true, true, true, true, true, true, true, true, true, true, true, true, true, false, true, true, true, false, false, false, false] rfl rfl (any_of HT_.out (by kernel_rfl)) (fun _ _ _ h => h) (Or.inl ⟨by rfl, ?_⟩) ?_ ?_
                     rotate_left
                     ·intro w'
                      go_simp
                      with_reducible rfl
                     rotate_left
                     ·simp only [Act.put, List.setIfInBounds_toArray, List.set_cons_zero, List.set_cons_succ, i64_w, i32_w]
                      rfl
                     refine pure_ (i := 20) (N := some 100) (v := ?_) (a' := ?_) #[true, true, true, true, true, true, true, true, true, true, true, true, true, true, true, true, false, true, true, true, true, false, false, false] rfl rfl (any_of HT_.out (by kernel_rfl)) (fun _ _ _ h => h) (Or.inl ⟨by rfl, ?_⟩) ?_ ?_
                     rotate_left
                     ·intro w'
                      go_simp
                      with_reducible rfl
                     rotate_left
                     ·simp only [Act.put, List.setIfInBounds_toArray, List.set_cons_zero, List.set_cons_succ, i64_w, i32_w]
                      rfl
                     refine take_ (i := 16) (N := some 96) (v := ?_) (a' := ?_) #[true, true, true, true, true, true, true, true, true, true, true, true, true, true, true, true, true, true, true, true, true, false, false, false] rfl rfl (take_ofW HT_.out HW_.out (by kernel_rfl)) (fun _ _ _ h => h) (Or.inl ⟨by rfl, ?_⟩) hHeld ?_ ?_
                     rotate_left
                     ·rintro w' ⟨s0, s1, s2, s3, s4, s5, s6, s7, s8, s9, s10, s11⟩
                      go_simp
                      with_reducible rfl
                     rotate_left
                     ·simp only [Act.put, List.setIfInBounds_toArray, List.set_cons_zero, List.set_cons_succ, i64_w, i32_w]
                      rfl
                     refine take_ (i := 21) (N := some 101) (v := ?_) (a' := ?_) #[true, true, true, true, true, true, true, true, true, true, true, true, true, true, true, true, true, true, true, true, true, true, false, false] rfl rfl (take_ofW HT_.out HW_.out (by kernel_rfl)) (fun _ _ _ h => h) (Or.inl ⟨by rfl, ?_⟩) hHeld ?_ ?_
                     rotate_left
                     ·rintro w' ⟨s0, s1, s2, s3, s4, s5, s6, s7, s8, s9, s10, s11⟩
                      go_simp
                      with_reducible rfl
                     rotate_left
                     ·simp only [Act.put, List.setIfInBounds_toArray, List.set_cons_zero, List.set_cons_succ, i64_w, i32_w]
                      rfl
                     refine pure_ (i := 22) (N := some 102) (v := ?_) (a' := ?_) #[true, true, true, true, true, true, true, true, true, true, true, true, true, true, true, true, true, true, true, true, true, true, true, false] rfl rfl (any_of HT_.out (by kernel_rfl)) (fun _ _ _ h => h) (Or.inl ⟨by rfl, ?_⟩) ?_ ?_
                     rotate_left
                     ·intro w'
                      go_simp
                      with_reducible rfl
                     rotate_left
                     ·simp only [Act.put, List.setIfInBounds_toArray, List.set_cons_zero, List.set_cons_succ, i64_w, i32_w]
                      rfl
                     refine pure_ (i := 23) (N := some 103) (v := ?_) (a' := ?_) #[true, true, true, true, true, true, true, true, true, true, true, true, true, true, true, true, true, true, true, true, true, true, true, true] rfl rfl (any_of HT_.out (by kernel_rfl)) (fun _ _ _ h => h) (Or.inl ⟨by rfl, ?_⟩) ?_ ?_
                     rotate_left
                     ·intro w'
                      go_simp
                      with_reducible rfl
                     rotate_left
                     ·simp only [Act.put, List.setIfInBounds_toArray, List.set_cons_zero, List.set_cons_succ, i64_w, i32_w]
                      rfl
                     refine done_ (done_of HT_.out (by kernel_rfl)) ?_
                     try go_wp2
                     go_meet
                     case rel => exact ⟨_, ((((rd_T68 t27 x15_4).f1) == ((rd_T68 t27 x14_3).f1))), (by rfl), H', ⟨by have := HJ5.out; have := HK2.out; have := HK3.out; have := HK4.out; first | omega ⟩, ⟨by (with_reducible repeat (first | apply Kd.R_alloc | apply Kd.R_drewN | apply Kd.R_drew)); exact HO_11.out⟩, ⟨by (with_reducible repeat (first | apply Kd.R_alloc | apply Kd.R_drewN | apply Kd.R_drew)); exact HO_31000.out⟩, ⟨by (with_reducible repeat (first | apply Kd.R_alloc | apply Kd.R_drewN | apply Kd.R_drew)); exact HO_31001.out⟩, ⟨by (with_reducible repeat (first | apply Kd.R_alloc | apply Kd.R_drewN | apply Kd.R_drew)); exact HO_31002.out⟩, ⟨kM BK11.out⟩, ⟨kM BK30.out⟩, ⟨by repeat ((with_reducible first | exact HB.out ))⟩⟩
                    ·rw [if_neg c36] at H
                     have c36b0 : (((rd_T68 t27 x15_4).f0) == ((rd_T68 t27 x14_3).f0)) = false := beq_eq_false_iff_ne.mpr c36
                     have c36b1 : (((rd_T68 t27 x15_4).f0) != ((rd_T68 t27 x14_3).f0)) = true := bne_iff_ne.mpr c36
                     have H' := Aside0.mk H
                     clear H
                     try go_wp2
                     replace HO_11 := Aside0.mk (Kd.R_drew HO_11.out)
                     replace HO_31000 := Aside0.mk (Kd.R_drew HO_31000.out)
                     replace HO_31001 := Aside0.mk (Kd.R_drew HO_31001.out)
                     replace HO_31002 := Aside0.mk (Kd.R_drew HO_31002.out)
                     replace BK11 := Aside0.mk (blk_drew BK11.out)
                     replace BK30 := Aside0.mk (blk_drew BK30.out)
                     replace HB := Aside0.mk (below_drew1 HB.out)
                     have p33 : 0 ≤ (x15_4 : Int) := of_decide_eq_true (by (with_reducible assumption))
                     have q33 : x15_4 < (t27.length : Int) := of_decide_eq_true (by (with_reducible assumption))
                     obtain ⟨ad33, e33, hx33_0, hx33_1, hx33_2⟩ := at_T68 (Kd.R_reads' HO_11.out).2.2 x15_4 p33 q33
                     obtain rfl : ad32 = ad33 := (by injection e33)
                     replace p33 := eq_true p33
                     replace q33 := eq_true q33
                     have p34 : 0 ≤ (x14_3 : Int) := of_decide_eq_true (by (with_reducible assumption))
                     have q34 : x14_3 < (t27.length : Int) := of_decide_eq_true (by (with_reducible assumption))
                     obtain ⟨ad34, e34, hx34_0, hx34_1, hx34_2⟩ := at_T68 (Kd.R_reads' HO_11.out).2.2 x14_3 p34 q34
                     obtain rfl : ad32 = ad34 := (by injection e34)
                     replace p34 := eq_true p34
                     replace q34 := eq_true q34
                     refine start_ (n := 24) (S := fun w' => w'.cell? (ad32.add ((x15_4).toNat * 3)) = some (.int .i64 ((rd_T68 t27 x15_4).f0)) ∧ w'.cell? ⟨(ad32.add ((x15_4).toNat * 3)).block, (ad32.add ((x15_4).toNat * 3)).off + 1, none⟩ = some (.int .i64 ((rd_T68 t27 x15_4).f1)) ∧ w'.cell? ⟨(ad32.add ((x15_4).toNat * 3)).block, (ad32.add ((x15_4).toNat * 3)).off + 2, none⟩ = some (.int .i64 ((rd_T68 t27 x15_4).f2)) ∧ w'.cell? (ad32.add ((x14_3).toNat * 3)) = some (.int .i64 ((rd_T68 t27 x14_3).f0)) ∧ w'.cell? ⟨(ad32.add ((x14_3).toNat * 3)).block, (ad32.add ((x14_3).toNat * 3)).off + 1, none⟩ = some (.int .i64 ((rd_T68 t27 x14_3).f1)) ∧ w'.cell? ⟨(ad32.add ((x14_3).toNat * 3)).block, (ad32.add ((x14_3).toNat * 3)).off + 2, none⟩ = some (.int .i64 ((rd_T68 t27 x14_3).f2))) (ds := []) #[false, false, false, false, false, false, false, false, false, false, false, false, false, false, false, false, false, false, false, false, false, false, false, false] (by kernel_rfl) rfl rfl ⟨hx33_0, hx33_1, hx33_2, hx34_0, hx34_1, hx34_2⟩ (fun hHeld => ?_); refine with_tabW roadbooklaw20_CallsReal.tab20 roadbooklaw20_CallsReal.bits20 (fun HT_ HW_ => ?_)
                     generalize wr.drew = w38 at HO_11 HO_31000 HO_31001 HO_31002 BK11 BK30 HB hx33_0 hx33_1 hx33_2 hx34_0 hx34_1 hx34_2 hHeld ⊢
                     refine pure_ (i := 0) (N := some 80) (v := ?_) (a' := ?_) #[true, false, false, false, false, false, false, false, false, false, false, false, false, false, false, false, false, false, false, false, false, false, false, false] rfl rfl (any_of HT_.out (by kernel_rfl)) (fun _ _ _ h => h) (Or.inl ⟨by rfl, ?_⟩) ?_ ?_
                     rotate_left
                     ·intro w'
                      go_simp
                      with_reducible rfl
                     rotate_left
                     ·simp only [Act.put, List.setIfInBounds_toArray, List.set_cons_zero, List.set_cons_succ, i64_w, i32_w]
                      rfl
                     refine pure_ (i := 1) (N := some 81) (v := ?_) (a' := ?_) #[true, true, false, false, false, false, false, false, false, false, false, false, false, false, false, false, false, false, false, false, false, false, false, false] rfl rfl (any_of HT_.out (by kernel_rfl)) (fun _ _ _ h => h) (Or.inl ⟨by rfl, ?_⟩) ?_ ?_
                     rotate_left
                     ·intro w'
                      go_simp
                      with_reducible rfl
                     rotate_left
                     ·simp only [Act.put, List.setIfInBounds_toArray, List.set_cons_zero, List.set_cons_succ, i64_w, i32_w]
                      rfl
                     refine pure_ (i := 2) (N := some 82) (v := ?_) (a' := ?_) #[true, true, true, false, false, false, false, false, false, false, false, false, false, false, false, false, false, false, false, false, false, false, false, false] rfl rfl (any_of HT_.out (by kernel_rfl)) (fun _ _ _ h => h) (Or.inl ⟨by rfl, ?_⟩) ?_ ?_
                     rotate_left
                     ·intro w'
                      go_simp
                      with_reducible rfl
                     rotate_left
                     ·simp only [Act.put, List.setIfInBounds_toArray, List.set_cons_zero, List.set_cons_succ, i64_w, i32_w]
                      rfl
                     refine pure_ (i := 3) (N := some 83) (v := ?_) (a' := ?_) #[true, true, true, true, false, false, false, false, false, false, false, false, false, false, false, false, false, false, false, false, false, false, false, false] rfl rfl (any_of HT_.out (by kernel_rfl)) (fun _ _ _ h => h) (Or.inl ⟨by rfl, ?_⟩) ?_ ?_
                     rotate_left
                     ·intro w'
                      go_simp
                      with_reducible rfl
                     rotate_left
                     ·simp only [Act.put, List.setIfInBounds_toArray, List.set_cons_zero, List.set_cons_succ, i64_w, i32_w]
                      rfl
                     refine pure_ (i := 5) (N := some 85) (v := ?_) (a' := ?_) #[true, true, true, true, false, true, false, false, false, false, false, false, false, false, false, false, false, false, false, false, false, false, false, false] rfl rfl (any_of HT_.out (by kernel_rfl)) (fun _ _ _ h => h) (Or.inl ⟨by rfl, ?_⟩) ?_ ?_
                     rotate_left
                     ·intro w'
                      go_simp
                      with_reducible rfl
                     rotate_left
                     ·simp only [Act.put, List.setIfInBounds_toArray, List.set_cons_zero, List.set_cons_succ, i64_w, i32_w]
                      rfl
                     refine pure_ (i := 6) (N := some 86) (v := ?_) (a' := ?_) #[true, true, true, true, false, true, true, false, false, false, false, false, false, false, false, false, false, false, false, false, false, false, false, false] rfl rfl (any_of HT_.out (by kernel_rfl)) (fun _ _ _ h => h) (Or.inl ⟨by rfl, ?_⟩) ?_ ?_
                     rotate_left
                     ·intro w'
                      go_simp
                      with_reducible rfl
                     rotate_left
                     ·simp only [Act.put, List.setIfInBounds_toArray, List.set_cons_zero, List.set_cons_succ, i64_w, i32_w]
                      rfl
                     refine pure_ (i := 7) (N := some 87) (v := ?_) (a' := ?_) #[true, true, true, true, false, true, true, true, false, false, false, false, false, false, false, false, false, false, false, false, false, false, false, false] rfl rfl (any_of HT_.out (by kernel_rfl)) (fun _ _ _ h => h) (Or.inl ⟨by rfl, ?_⟩) ?_ ?_
                     rotate_left
                     ·intro w'
                      go_simp
                      with_reducible rfl
                     rotate_left
                     ·simp only [Act.put, List.setIfInBounds_toArray, List.set_cons_zero, List.set_cons_succ, i64_w, i32_w]
                      rfl
                     refine pure_ (i := 8) (N := some 88) (v := ?_) (a' := ?_) #[true, true, true, true, false, true, true, true, true, false, false, false, false, false, false, false, false, false, false, false, false, false, false, false] rfl rfl (any_of HT_.out (by kernel_rfl)) (fun _ _ _ h => h) (Or.inl ⟨by rfl, ?_⟩) ?_ ?_
                     rotate_left
                     ·intro w'
                      go_simp
                      with_reducible rfl
                     rotate_left
                     ·simp only [Act.put, List.setIfInBounds_toArray, List.set_cons_zero, List.set_cons_succ, i64_w, i32_w]
                      rfl
                     refine take_ (i := 4) (N := some 84) (v := ?_) (a' := ?_) #[true, true, true, true, true, true, true, true, true, false, false, false, false, false, false, false, false, false, false, false, false, false, false, false] rfl rfl (take_ofW HT_.out HW_.out (by kernel_rfl)) (fun _ _ _ h => h) (Or.inl ⟨by rfl, ?_⟩) hHeld ?_ ?_
                     rotate_left
                     ·rintro w' ⟨s0, s1, s2, s3, s4, s5⟩
                      go_simp
                      with_reducible rfl
                     rotate_left
                     ·simp only [Act.put, List.setIfInBounds_toArray, List.set_cons_zero, List.set_cons_succ, i64_w, i32_w]
                      rfl
                     refine take_ (i := 9) (N := some 89) (v := ?_) (a' := ?_) #[true, true, true, true, true, true, true, true, true, true, false, false, false, false, false, false, false, false, false, false, false, false, false, false] rfl rfl (take_ofW HT_.out HW_.out (by kernel_rfl)) (fun _ _ _ h => h) (Or.inl ⟨by rfl, ?_⟩) hHeld ?_ ?_
                     rotate_left
                     ·rintro w' ⟨s0, s1, s2, s3, s4, s5⟩
                      go_simp
                      with_reducible rfl
                     rotate_left
                     ·simp only [Act.put, List.setIfInBounds_toArray, List.set_cons_zero, List.set_cons_succ, i64_w, i32_w]
                      rfl
                     refine pure_ (i := 10) (N := some 90) (v := ?_) (a' := ?_) #[true, true, true, true, true, true, true, true, true, true, true, false, false, false, false, false, false, false, false, false, false, false, false, false] rfl rfl (any_of HT_.out (by kernel_rfl)) (fun _ _ _ h => h) (Or.inl ⟨by rfl, ?_⟩) ?_ ?_
                     rotate_left
                     ·intro w'
                      go_simp
                      with_reducible rfl
                     rotate_left
                     ·simp only [Act.put, List.setIfInBounds_toArray, List.set_cons_zero, List.set_cons_succ, i64_w, i32_w]
                      rfl
                     refine pure_ (i := 11) (N := some 91) (v := ?_) (a' := ?_) #[true, true, true, true, true, true, true, true, true, true, true, true, false, false, false, false, false, false, false, false, false, false, false, false] rfl rfl (any_of HT_.out (by kernel_rfl)) (fun _ _ _ h => h) (Or.inl ⟨by rfl, ?_⟩) ?_ ?_
                     rotate_left
                     ·intro w'
                      go_simp
                      with_reducible rfl
                     rotate_left
                     ·simp only [Act.put, List.setIfInBounds_toArray, List.set_cons_zero, List.set_cons_succ, i64_w, i32_w]
                      rfl
                     refine pure_ (i := 12) (N := some 92) (v := undef) (a' := ?_) #[true, true, true, true, true, true, true, true, true, true, true, true, true, false, false, false, false, false, false, false, false, false, false, false] rfl rfl (any_of HT_.out (by kernel_rfl)) (fun _ _ _ h => h) (Or.inr ⟨by rfl, rfl⟩) ?_ ?_
                     rotate_left
                     ·simp only [Act.put, List.setIfInBounds_toArray, List.set_cons_zero, List.set_cons_succ, i64_w, i32_w]
                      rfl
                     refine pure_ (i := 13) (N := some 93) (v := undef) (a' := ?_) #[true, true, true, true, true, true, true, true, true, true, true, true, true, true, false, false, false, false, false, false, false, false, false, false] rfl rfl (any_of HT_.out (by kernel_rfl)) (fun _ _ _ h => h) (Or.inr ⟨by rfl, rfl⟩) ?_ ?_
                     rotate_left
                     ·simp only [Act.put, List.setIfInBounds_toArray, List.set_cons_zero, List.set_cons_succ, i64_w, i32_w]
                      rfl
                     refine pure_ (i := 14) (N := some 94) (v := undef) (a' := ?_) #[true, true, true, true, true, true, true, true, true, true, true, true, true, true, true, false, false, false, false, false, false, false, false, false] rfl rfl (any_of HT_.out (by kernel_rfl)) (fun _ _ _ h => h) (Or.inr ⟨by rfl, rfl⟩) ?_ ?_
                     rotate_left
                     ·simp only [Act.put, List.setIfInBounds_toArray, List.set_cons_zero, List.set_cons_succ, i64_w, i32_w]
                      rfl
                     refine pure_ (i := 15) (N := some 95) (v := undef) (a' := ?_) #[true, true, true, true, true, true, true, true, true, true, true, true, true, true, true, true, false, false, false, false, false, false, false, false] rfl rfl (any_of HT_.out (by kernel_rfl)) (fun _ _ _ h => h) (Or.inr ⟨by rfl, rfl⟩) ?_ ?_
                     rotate_left
                     ·simp only [Act.put, List.setIfInBounds_toArray, List.set_cons_zero, List.set_cons_succ, i64_w, i32_w]
                      rfl
                     refine pure_ (i := 16) (N := some 96) (v := undef) (a' := ?_) #[true, true, true, true, true, true, true, true, true, true, true, true, true, true, true, true, true, false, false, false, false, false, false, false] rfl rfl (any_of HT_.out (by kernel_rfl)) (fun _ _ _ h => h) (Or.inr ⟨by rfl, rfl⟩) ?_ ?_
                     rotate_left
                     ·simp only [Act.put, List.setIfInBounds_toArray, List.set_cons_zero, List.set_cons_succ, i64_w, i32_w]
                      rfl
                     refine pure_ (i := 17) (N := some 97) (v := undef) (a' := ?_) #[true, true, true, true, true, true, true, true, true, true, true, true, true, true, true, true, true, true, false, false, false, false, false, false] rfl rfl (any_of HT_.out (by kernel_rfl)) (fun _ _ _ h => h) (Or.inr ⟨by rfl, rfl⟩) ?_ ?_
                     rotate_left
                     ·simp only [Act.put, List.setIfInBounds_toArray, List.set_cons_zero, List.set_cons_succ, i64_w, i32_w]
                      rfl
                     refine pure_ (i := 18) (N := some 98) (v := undef) (a' := ?_) #[true, true, true, true, true, true, true, true, true, true, true, true, true, true, true, true, true, true, true, false, false, false, false, false] rfl rfl (any_of HT_.out (by kernel_rfl)) (fun _ _ _ h => h) (Or.inr ⟨by rfl, rfl⟩) ?_ ?_
                     rotate_left
                     ·simp only [Act.put, List.setIfInBounds_toArray, List.set_cons_zero, List.set_cons_succ, i64_w, i32_w]
                      rfl
                     refine pure_ (i := 19) (N := some 99) (v := undef) (a' := ?_) #[true, true, true, true, true, true, true, true, true, true, true, true, true, true, true, true, true, true, true, true, false, false, false, false] rfl rfl (any_of HT_.out (by kernel_rfl)) (fun _ _ _ h => h) (Or.inr ⟨by rfl, rfl⟩) ?_ ?_
                     rotate_left
                     ·simp only [Act.put, List.setIfInBounds_toArray, List.set_cons_zero, List.set_cons_succ, i64_w, i32_w]
                      rfl
                     refine pure_ (i := 20) (N := some 100) (v := undef) (a' := ?_) #[true, true, true, true, true, true, true, true, true, true, true, true, true, true, true, true, true, true, true, true, true, false, false, false] rfl rfl (any_of HT_.out (by kernel_rfl)) (fun _ _ _ h => h) (Or.inr ⟨by rfl, rfl⟩) ?_ ?_
                     rotate_left
                     ·simp only [Act.put, List.setIfInBounds_toArray, List.set_cons_zero, List.set_cons_succ, i64_w, i32_w]
                      rfl
                     refine pure_ (i := 21) (N := some 101) (v := undef) (a' := ?_) #[true, true, true, true, true, true, true, true, true, true, true, true, true, true, true, true, true, true, true, true, true, true, false, false] rfl rfl (any_of HT_.out (by kernel_rfl)) (fun _ _ _ h => h) (Or.inr ⟨by rfl, rfl⟩) ?_ ?_
                     rotate_left
                     ·simp only [Act.put, List.setIfInBounds_toArray, List.set_cons_zero, List.set_cons_succ, i64_w, i32_w]
                      rfl
                     refine pure_ (i := 22) (N := some 102) (v := undef) (a' := ?_) #[true, true, true, true, true, true, true, true, true, true, true, true, true, true, true, true, true, true, true, true, true, true, true, false] rfl rfl (any_of HT_.out (by kernel_rfl)) (fun _ _ _ h => h) (Or.inr ⟨by rfl, rfl⟩) ?_ ?_
                     rotate_left
                     ·simp only [Act.put, List.setIfInBounds_toArray, List.set_cons_zero, List.set_cons_succ, i64_w, i32_w]
                      rfl
                     refine pure_ (i := 23) (N := some 103) (v := ?_) (a' := ?_) #[true, true, true, true, true, true, true, true, true, true, true, true, true, true, true, true, true, true, true, true, true, true, true, true] rfl rfl (any_of HT_.out (by kernel_rfl)) (fun _ _ _ h => h) (Or.inl ⟨by rfl, ?_⟩) ?_ ?_
                     rotate_left
                     ·intro w'
                      go_simp
                      with_reducible rfl
                     rotate_left
                     ·simp only [Act.put, List.setIfInBounds_toArray, List.set_cons_zero, List.set_cons_succ, i64_w, i32_w]
                      rfl
                     refine done_ (done_of HT_.out (by kernel_rfl)) ?_
                     try go_wp2
                     go_meet
                     case rel => exact ⟨_, (false), (by rfl), H', ⟨by have := HJ5.out; have := HK2.out; have := HK3.out; have := HK4.out; first | omega ⟩, ⟨by (with_reducible repeat (first | apply Kd.R_alloc | apply Kd.R_drewN | apply Kd.R_drew)); exact HO_11.out⟩, ⟨by (with_reducible repeat (first | apply Kd.R_alloc | apply Kd.R_drewN | apply Kd.R_drew)); exact HO_31000.out⟩, ⟨by (with_reducible repeat (first | apply Kd.R_alloc | apply Kd.R_drewN | apply Kd.R_drew)); exact HO_31001.out⟩, ⟨by (with_reducible repeat (first | apply Kd.R_alloc | apply Kd.R_drewN | apply Kd.R_drew)); exact HO_31002.out⟩, ⟨kM BK11.out⟩, ⟨kM BK30.out⟩, ⟨by repeat ((with_reducible first | exact HB.out ))⟩⟩
                   ·rw [if_neg c35] at H
                    exact absurd H (by simp)
                  ·rw [if_neg c34] at H
                   exact absurd H (by simp)
                 ·rw [if_neg c33] at H
                  exact absurd H (by simp)
                case rest =>
                 clear HC32
                 try clear c31b0
                 obtain ⟨kq, x103_31, rfl, HA, HJ31, HO_11, HO_31000, HO_31001, HO_31002, BK11, BK30, HB⟩ := hcut
                 cases kq with
                 | zero => exact absurd HA.out (by simp [roadbooklaw20_CallsReal.j4])
                 | succ kj31 =>
                  have H := HA.out
                  clear HA
                  simp only [roadbooklaw20_CallsReal.j4] at H
                  by_cases c39 : x103_31 = true
                  ·subst c39
                   rw [if_pos rfl] at H
                   exact absurd (HRT.out.symm.trans (Option.some.inj H).symm) (by decide)
                  ·replace c39 := Bool.eq_false_iff.mpr c39
                   subst c39
                   rw [if_neg (show ¬ (false = true) by decide)] at H
                   by_cases c40 : 0 ≤ x15_4
                   ·rw [if_pos c40] at H
                    have c40b0 : decide (0 ≤ x15_4) = true := decide_eq_true c40
                    clear c40
                    by_cases c41 : x15_4 < (t27.length : Int)
                    ·rw [if_pos c41] at H
                     have c41b0 : decide (x15_4 < (t27.length : Int)) = true := decide_eq_true c41
                     clear c41
                     by_cases c42 : ((rd_T68 t27 x15_4).f2) = 0
                     ·rw [if_pos c42] at H
                      have c42b0 : (((rd_T68 t27 x15_4).f2) == 0) = true := beq_iff_eq.mpr c42
                      have c42b1 : (((rd_T68 t27 x15_4).f2) != 0) = false := bne_eq_false_iff_eq.mpr c42
                      clear c42
                      by_cases c43 : 0 ≤ x14_3
                      ·rw [if_pos c43] at H
                       have c43b0 : decide (0 ≤ x14_3) = true := decide_eq_true c43
                       clear c43
                       by_cases c44 : x14_3 < (t27.length : Int)
                       ·rw [if_pos c44] at H
                        have c44b0 : decide (x14_3 < (t27.length : Int)) = true := decide_eq_true c44
                        clear c44
                        replace H := Option.bind_eq_some_iff.mp H
                        obtain ⟨t40, A450, H⟩ := H
                        have A45 := Aside0.mk A450
                        clear A450
                        replace H := Option.bind_eq_some_iff.mp H
                        obtain ⟨t43, A460, H⟩ := H
                        have A46 := Aside0.mk A460
                        clear A460
                        by_cases c47 : t40 < 0
                        ·rw [if_pos c47] at H
                         have c47b0 : decide (t40 < 0) = true := decide_eq_true c47
                         clear c47
                         exact absurd (HRT.out.symm.trans (Option.some.inj H).symm) (by decide)
                        ·rw [if_neg c47] at H
                         have c47b0 : decide (t40 < 0) = false := decide_eq_false c47
                         clear c47
                         by_cases c48 : t43 < 0
                         ·rw [if_pos c48] at H
                          have c48b0 : decide (t43 < 0) = true := decide_eq_true c48
                          clear c48
                          exact absurd (HRT.out.symm.trans (Option.some.inj H).symm) (by decide)
                         ·rw [if_neg c48] at H
                          have c48b0 : decide (t43 < 0) = false := decide_eq_false c48
                          clear c48
                          by_cases c49 : t40 > x14_3
                          ·rw [if_pos c49] at H
                           have c49b0 : decide (x14_3 < t40) = true := decide_eq_true c49
                           clear c49
                           exact absurd (HRT.out.symm.trans (Option.some.inj H).symm) (by decide)
                          ·rw [if_neg c49] at H
                           have c49b0 : decide (x14_3 < t40) = false := decide_eq_false c49
                           clear c49
                           by_cases c50 : t43 < x15_4
                           ·rw [if_pos c50] at H
                            have c50b0 : decide (t43 < x15_4) = true := decide_eq_true c50
                            clear c50
                            exact absurd (HRT.out.symm.trans (Option.some.inj H).symm) (by decide)
                           ·rw [if_neg c50] at H
                            have c50b0 : decide (t43 < x15_4) = false := decide_eq_false c50
                            clear c50
                            have H' := Aside0.mk H
                            clear H
                            have p37 : 0 ≤ (x15_4 : Int) := of_decide_eq_true (by (with_reducible assumption))
                            have q37 : x15_4 < (t27.length : Int) := of_decide_eq_true (by (with_reducible assumption))
                            obtain ⟨ad37, e37, hx37_0, hx37_1, hx37_2⟩ := at_T68 (Kd.R_reads' HO_11.out).2.2 x15_4 p37 q37
                            obtain rfl : ad32 = ad37 := (by injection e37)
                            replace p37 := eq_true p37
                            replace q37 := eq_true q37
                            try go_wp2
                            replace HO_11 := Aside0.mk (Kd.R_drew HO_11.out)
                            replace HO_31000 := Aside0.mk (Kd.R_drew HO_31000.out)
                            replace HO_31001 := Aside0.mk (Kd.R_drew HO_31001.out)
                            replace HO_31002 := Aside0.mk (Kd.R_drew HO_31002.out)
                            replace BK11 := Aside0.mk (blk_drew BK11.out)
                            replace BK30 := Aside0.mk (blk_drew BK30.out)
                            replace HB := Aside0.mk (below_drew1 HB.out)
                            have p38 : 0 ≤ (x14_3 : Int) := of_decide_eq_true (by (with_reducible assumption))
                            have q38 : x14_3 < (t27.length : Int) := of_decide_eq_true (by (with_reducible assumption))
                            obtain ⟨ad38, e38, hx38_0, hx38_1, hx38_2⟩ := at_T68 (Kd.R_reads' HO_11.out).2.2 x14_3 p38 q38
                            obtain rfl : ad32 = ad38 := (by injection e38)
                            replace p38 := eq_true p38
                            replace q38 := eq_true q38
                            have p39 : 0 ≤ (x14_3 : Int) := of_decide_eq_true (by (with_reducible assumption))
                            have q39 : x14_3 < (t27.length : Int) := of_decide_eq_true (by (with_reducible assumption))
                            obtain ⟨ad39, e39, hx39_0, hx39_1, hx39_2⟩ := at_T68 (Kd.R_reads' HO_11.out).2.2 x14_3 p39 q39
                            obtain rfl : ad32 = ad39 := (by injection e39)
                            replace p39 := eq_true p39
                            replace q39 := eq_true q39
                            refine start_ (n := 14) (S := fun w' => w'.cell? (ad32.add ((x14_3).toNat * 3)) = some (.int .i64 ((rd_T68 t27 x14_3).f0)) ∧ w'.cell? ⟨(ad32.add ((x14_3).toNat * 3)).block, (ad32.add ((x14_3).toNat * 3)).off + 1, none⟩ = some (.int .i64 ((rd_T68 t27 x14_3).f1)) ∧ w'.cell? ⟨(ad32.add ((x14_3).toNat * 3)).block, (ad32.add ((x14_3).toNat * 3)).off + 2, none⟩ = some (.int .i64 ((rd_T68 t27 x14_3).f2)) ∧ w'.cell? (ad32.add ((x14_3).toNat * 3)) = some (.int .i64 ((rd_T68 t27 x14_3).f0)) ∧ w'.cell? ⟨(ad32.add ((x14_3).toNat * 3)).block, (ad32.add ((x14_3).toNat * 3)).off + 1, none⟩ = some (.int .i64 ((rd_T68 t27 x14_3).f1)) ∧ w'.cell? ⟨(ad32.add ((x14_3).toNat * 3)).block, (ad32.add ((x14_3).toNat * 3)).off + 2, none⟩ = some (.int .i64 ((rd_T68 t27 x14_3).f2))) (ds := []) #[false, false, false, false, false, false, false, false, false, false, false, false, false, false] (by kernel_rfl) rfl rfl ⟨hx38_0, hx38_1, hx38_2, hx39_0, hx39_1, hx39_2⟩ (fun hHeld => ?_); refine with_tabW roadbooklaw20_CallsReal.tab23 roadbooklaw20_CallsReal.bits23 (fun HT_ HW_ => ?_)
                            generalize wc.drew = w51 at HO_11 HO_31000 HO_31001 HO_31002 BK11 BK30 HB hx38_0 hx38_1 hx38_2 hx39_0 hx39_1 hx39_2 hHeld ⊢
                            refine pure_ (i := 0) (N := some 110) (v := ?_) (a' := ?_) #[true, false, false, false, false, false, false, false, false, false, false, false, false, false] rfl rfl (any_of HT_.out (by kernel_rfl)) (fun _ _ _ h => h) (Or.inl ⟨by rfl, ?_⟩) ?_ ?_
                            rotate_left
                            ·intro w'
                             go_simp
                             with_reducible rfl
                            rotate_left
                            ·simp only [Act.put, List.setIfInBounds_toArray, List.set_cons_zero, List.set_cons_succ, i64_w, i32_w]
                             rfl
                            refine pure_ (i := 1) (N := some 111) (v := ?_) (a' := ?_) #[true, true, false, false, false, false, false, false, false, false, false, false, false, false] rfl rfl (any_of HT_.out (by kernel_rfl)) (fun _ _ _ h => h) (Or.inl ⟨by rfl, ?_⟩) ?_ ?_
                            rotate_left
                            ·intro w'
                             go_simp
                             with_reducible rfl
                            rotate_left
                            ·simp only [Act.put, List.setIfInBounds_toArray, List.set_cons_zero, List.set_cons_succ, i64_w, i32_w]
                             rfl
                            refine pure_ (i := 2) (N := some 112) (v := ?_) (a' := ?_) #[true, true, true, false, false, false, false, false, false, false, false, false, false, false] rfl rfl (any_of HT_.out (by kernel_rfl)) (fun _ _ _ h => h) (Or.inl ⟨by rfl, ?_⟩) ?_ ?_
                            rotate_left
                            ·intro w'
                             go_simp
                             with_reducible rfl
                            rotate_left
                            ·simp only [Act.put, List.setIfInBounds_toArray, List.set_cons_zero, List.set_cons_succ, i64_w, i32_w]
                             rfl
                            refine pure_ (i := 3) (N := some 113) (v := ?_) (a' := ?_) #[true, true, true, true, false, false, false, false, false, false, false, false, false, false] rfl rfl (any_of HT_.out (by kernel_rfl)) (fun _ _ _ h => h) (Or.inl ⟨by rfl, ?_⟩) ?_ ?_
                            rotate_left
                            ·intro w'
                             go_simp
                             with_reducible rfl
                            rotate_left
                            ·simp only [Act.put, List.setIfInBounds_toArray, List.set_cons_zero, List.set_cons_succ, i64_w, i32_w]
                             rfl
                            refine pure_ (i := 4) (N := some 114) (v := ?_) (a' := ?_) #[true, true, true, true, true, false, false, false, false, false, false, false, false, false] rfl rfl (any_of HT_.out (by kernel_rfl)) (fun _ _ _ h => h) (Or.inl ⟨by rfl, ?_⟩) ?_ ?_
                            rotate_left
                            ·intro w'
                             go_simp
                             with_reducible rfl
                            rotate_left
                            ·simp only [Act.put, List.setIfInBounds_toArray, List.set_cons_zero, List.set_cons_succ, i64_w, i32_w]
                             rfl
                            refine pure_ (i := 6) (N := some 116) (v := ?_) (a' := ?_) #[true, true, true, true, true, false, true, false, false, false, false, false, false, false] rfl rfl (any_of HT_.out (by kernel_rfl)) (fun _ _ _ h => h) (Or.inl ⟨by rfl, ?_⟩) ?_ ?_
                            rotate_left
                            ·intro w'
                             go_simp
                             with_reducible rfl
                            rotate_left
                            ·simp only [Act.put, List.setIfInBounds_toArray, List.set_cons_zero, List.set_cons_succ, i64_w, i32_w]
                             rfl
                            refine pure_ (i := 7) (N := some 117) (v := ?_) (a' := ?_) #[true, true, true, true, true, false, true, true, false, false, false, false, false, false] rfl rfl (any_of HT_.out (by kernel_rfl)) (fun _ _ _ h => h) (Or.inl ⟨by rfl, ?_⟩) ?_ ?_
                            rotate_left
                            ·intro w'
                             go_simp
                             with_reducible rfl
                            rotate_left
                            ·simp only [Act.put, List.setIfInBounds_toArray, List.set_cons_zero, List.set_cons_succ, i64_w, i32_w]
                             rfl
                            refine pure_ (i := 8) (N := some 118) (v := ?_) (a' := ?_) #[true, true, true, true, true, false, true, true, true, false, false, false, false, false] rfl rfl (any_of HT_.out (by kernel_rfl)) (fun _ _ _ h => h) (Or.inl ⟨by rfl, ?_⟩) ?_ ?_
                            rotate_left
                            ·intro w'
                             go_simp
                             with_reducible rfl
                            rotate_left
                            ·simp only [Act.put, List.setIfInBounds_toArray, List.set_cons_zero, List.set_cons_succ, i64_w, i32_w]
                             rfl
                            refine pure_ (i := 9) (N := some 119) (v := ?_) (a' := ?_) #[true, true, true, true, true, false, true, true, true, true, false, false, false, false] rfl rfl (any_of HT_.out (by kernel_rfl)) (fun _ _ _ h => h) (Or.inl ⟨by rfl, ?_⟩) ?_ ?_
                            rotate_left
                            ·intro w'
                             go_simp
                             with_reducible rfl
                            rotate_left
                            ·simp only [Act.put, List.setIfInBounds_toArray, List.set_cons_zero, List.set_cons_succ, i64_w, i32_w]
                             rfl
                            refine take_ (i := 5) (N := some 115) (v := ?_) (a' := ?_) #[true, true, true, true, true, true, true, true, true, true, false, false, false, false] rfl rfl (take_ofW HT_.out HW_.out (by kernel_rfl)) (fun _ _ _ h => h) (Or.inl ⟨by rfl, ?_⟩) hHeld ?_ ?_
                            rotate_left
                            ·rintro w' ⟨s0, s1, s2, s3, s4, s5⟩
                             go_simp
                             with_reducible rfl
                            rotate_left
                            ·simp only [Act.put, List.setIfInBounds_toArray, List.set_cons_zero, List.set_cons_succ, i64_w, i32_w]
                             rfl
                            refine take_ (i := 10) (N := some 120) (v := ?_) (a' := ?_) #[true, true, true, true, true, true, true, true, true, true, true, false, false, false] rfl rfl (take_ofW HT_.out HW_.out (by kernel_rfl)) (fun _ _ _ h => h) (Or.inl ⟨by rfl, ?_⟩) hHeld ?_ ?_
                            rotate_left
                            ·rintro w' ⟨s0, s1, s2, s3, s4, s5⟩
                             go_simp
                             with_reducible rfl
                            rotate_left
                            ·simp only [Act.put, List.setIfInBounds_toArray, List.set_cons_zero, List.set_cons_succ, i64_w, i32_w]
                             rfl
                            refine pure_ (i := 11) (N := some 121) (v := ?_) (a' := ?_) #[true, true, true, true, true, true, true, true, true, true, true, true, false, false] rfl rfl (any_of HT_.out (by kernel_rfl)) (fun _ _ _ h => h) (Or.inl ⟨by rfl, ?_⟩) ?_ ?_
                            rotate_left
                            ·intro w'
                             go_simp
                             with_reducible rfl
                            rotate_left
                            ·simp only [Act.put, List.setIfInBounds_toArray, List.set_cons_zero, List.set_cons_succ, i64_w, i32_w]
                             rfl
                            refine one_ (i := 12) (N := some 122) #[true, true, true, true, true, true, true, true, true, true, true, true, true, false] rfl rfl (one_of HT_.out (by kernel_rfl)) (by decide) (fun K hK => ?_)
                            refine goes_ Try.func60 (by kernel_rfl) rfl #[.slice (some ad32) t27.length co27, .agg #[.int .i64 ((rd_T68 t27 x14_3).f0), .int .i64 ((rd_T68 t27 x14_3).f1), .int .i64 1]] (by rfl) rfl rfl (by (try simp only [List.map_toArray, List.map_cons, List.map_nil]); first | rfl ) ?_
                            with_reducible refine (roadbooklaw20_place.calls kj31 _ _ t27 ((rd_T68 t27 x14_3).f0) ((rd_T68 t27 x14_3).f1) 1 t40 _ ?side1 ?side2 A45.out).mono ?_
                            (case side1 => exact cM (Kd.R_reads' HO_11.out).2.2)
                            (case side2 => exact (Kd.R_reads' HO_11.out).2.1)
                            rintro e w52 ⟨rfl, hb⟩
                            have HS0_ := (hb.cell (World.block_lt_of_cell? _ _ (hHeld.1))).trans (hHeld.1)
                            have HS1_ := (hb.cell (World.block_lt_of_cell? _ _ (hHeld.2.1))).trans (hHeld.2.1)
                            have HS2_ := (hb.cell (World.block_lt_of_cell? _ _ (hHeld.2.2.1))).trans (hHeld.2.2.1)
                            have HS3_ := (hb.cell (World.block_lt_of_cell? _ _ (hHeld.2.2.2.1))).trans (hHeld.2.2.2.1)
                            have HS4_ := (hb.cell (World.block_lt_of_cell? _ _ (hHeld.2.2.2.2.1))).trans (hHeld.2.2.2.2.1)
                            have HS5_ := (hb.cell (World.block_lt_of_cell? _ _ (hHeld.2.2.2.2.2))).trans (hHeld.2.2.2.2.2)
                            refine ⟨_, rfl, ?_⟩
                            replace HO_11 := Aside0.mk (Kd.R_below (rM HO_11.out) hb)
                            replace HO_31000 := Aside0.mk (Kd.R_below (rM HO_31000.out) hb)
                            replace HO_31001 := Aside0.mk (Kd.R_below (rM HO_31001.out) hb)
                            replace HO_31002 := Aside0.mk (Kd.R_below (rM HO_31002.out) hb)
                            replace BK11 := Aside0.mk (blk_below (kM BK11.out) hb)
                            replace BK30 := Aside0.mk (blk_below (kM BK30.out) hb)
                            replace HB := Aside0.mk (below_step (by exact wM HB.out) hb)
                            (try clear hb)
                            (try clear hb2)
                            (try clear hk)
                            (try clear hi)
                            refine hK.out _ _ ⟨HS0_, HS1_, HS2_, HS3_, HS4_, HS5_⟩ (fun hHeld => ?_)
                            clear hK K
                            refine norm_ (a' := ?_) ?_ ?_
                            rotate_left
                            ·show Act.put _ (some 122) _ = _
                             simp only [Act.put, List.setIfInBounds_toArray, List.set_cons_zero, List.set_cons_succ, i64_w, i32_w]
                             rfl
                            refine pure_ (i := 13) (N := some 16) (v := ?_) (a' := ?_) #[true, true, true, true, true, true, true, true, true, true, true, true, true, true] rfl rfl (any_of HT_.out (by kernel_rfl)) (fun _ _ _ h => h) (Or.inl ⟨by rfl, ?_⟩) ?_ ?_
                            rotate_left
                            ·intro w'
                             go_simp
                             with_reducible rfl
                            rotate_left
                            ·simp only [Act.put, List.setIfInBounds_toArray, List.set_cons_zero, List.set_cons_succ, i64_w, i32_w]
                             rfl
                            refine done_ (done_of HT_.out (by kernel_rfl)) ?_
                            try go_wp2
                            replace HO_11 := Aside0.mk (Kd.R_drew HO_11.out)
                            replace HO_31000 := Aside0.mk (Kd.R_drew HO_31000.out)
                            replace HO_31001 := Aside0.mk (Kd.R_drew HO_31001.out)
                            replace HO_31002 := Aside0.mk (Kd.R_drew HO_31002.out)
                            replace BK11 := Aside0.mk (blk_drew BK11.out)
                            replace BK30 := Aside0.mk (blk_drew BK30.out)
                            replace HB := Aside0.mk (below_drew1 HB.out)
                            have p41 : 0 ≤ (x15_4 : Int) := of_decide_eq_true (by (with_reducible assumption))
                            have q41 : x15_4 < (t27.length : Int) := of_decide_eq_true (by (with_reducible assumption))
                            obtain ⟨ad41, e41, hx41_0, hx41_1, hx41_2⟩ := at_T68 (Kd.R_reads' HO_11.out).2.2 x15_4 p41 q41
                            obtain rfl : ad32 = ad41 := (by injection e41)
                            replace p41 := eq_true p41
                            replace q41 := eq_true q41
                            have p42 : 0 ≤ (x15_4 : Int) := of_decide_eq_true (by (with_reducible assumption))
                            have q42 : x15_4 < (t27.length : Int) := of_decide_eq_true (by (with_reducible assumption))
                            obtain ⟨ad42, e42, hx42_0, hx42_1, hx42_2⟩ := at_T68 (Kd.R_reads' HO_11.out).2.2 x15_4 p42 q42
                            obtain rfl : ad32 = ad42 := (by injection e42)
                            replace p42 := eq_true p42
                            replace q42 := eq_true q42
                            refine start_ (n := 14) (S := fun w' => w'.cell? (ad32.add ((x15_4).toNat * 3)) = some (.int .i64 ((rd_T68 t27 x15_4).f0)) ∧ w'.cell? ⟨(ad32.add ((x15_4).toNat * 3)).block, (ad32.add ((x15_4).toNat * 3)).off + 1, none⟩ = some (.int .i64 ((rd_T68 t27 x15_4).f1)) ∧ w'.cell? ⟨(ad32.add ((x15_4).toNat * 3)).block, (ad32.add ((x15_4).toNat * 3)).off + 2, none⟩ = some (.int .i64 ((rd_T68 t27 x15_4).f2)) ∧ w'.cell? (ad32.add ((x15_4).toNat * 3)) = some (.int .i64 ((rd_T68 t27 x15_4).f0)) ∧ w'.cell? ⟨(ad32.add ((x15_4).toNat * 3)).block, (ad32.add ((x15_4).toNat * 3)).off + 1, none⟩ = some (.int .i64 ((rd_T68 t27 x15_4).f1)) ∧ w'.cell? ⟨(ad32.add ((x15_4).toNat * 3)).block, (ad32.add ((x15_4).toNat * 3)).off + 2, none⟩ = some (.int .i64 ((rd_T68 t27 x15_4).f2))) (ds := []) #[false, false, false, false, false, false, false, false, false, false, false, false, false, false] (by kernel_rfl) rfl rfl ⟨hx41_0, hx41_1, hx41_2, hx42_0, hx42_1, hx42_2⟩ (fun hHeld => ?_); refine with_tabW roadbooklaw20_CallsReal.tab24 roadbooklaw20_CallsReal.bits24 (fun HT_ HW_ => ?_)
                            generalize w52.drew = w53 at HO_11 HO_31000 HO_31001 HO_31002 BK11 BK30 HB hx41_0 hx41_1 hx41_2 hx42_0 hx42_1 hx42_2 hHeld ⊢
                            refine pure_ (i := 0) (N := some 123) (v := ?_) (a' := ?_) #[true, false, false, false, false, false, false, false, false, false, false, false, false, false] rfl rfl (any_of HT_.out (by kernel_rfl)) (fun _ _ _ h => h) (Or.inl ⟨by rfl, ?_⟩) ?_ ?_
                            rotate_left
                            ·intro w'
                             go_simp
                             with_reducible rfl
                            rotate_left
                            ·simp only [Act.put, List.setIfInBounds_toArray, List.set_cons_zero, List.set_cons_succ, i64_w, i32_w]
                             rfl
                            refine pure_ (i := 1) (N := some 124) (v := ?_) (a' := ?_) #[true, true, false, false, false, false, false, false, false, false, false, false, false, false] rfl rfl (any_of HT_.out (by kernel_rfl)) (fun _ _ _ h => h) (Or.inl ⟨by rfl, ?_⟩) ?_ ?_
                            rotate_left
                            ·intro w'
                             go_simp
                             with_reducible rfl
                            rotate_left
                            ·simp only [Act.put, List.setIfInBounds_toArray, List.set_cons_zero, List.set_cons_succ, i64_w, i32_w]
                             rfl
                            refine pure_ (i := 2) (N := some 125) (v := ?_) (a' := ?_) #[true, true, true, false, false, false, false, false, false, false, false, false, false, false] rfl rfl (any_of HT_.out (by kernel_rfl)) (fun _ _ _ h => h) (Or.inl ⟨by rfl, ?_⟩) ?_ ?_
                            rotate_left
                            ·intro w'
                             go_simp
                             with_reducible rfl
                            rotate_left
                            ·simp only [Act.put, List.setIfInBounds_toArray, List.set_cons_zero, List.set_cons_succ, i64_w, i32_w]
                             rfl
                            refine pure_ (i := 3) (N := some 126) (v := ?_) (a' := ?_) #[true, true, true, true, false, false, false, false, false, false, false, false, false, false] rfl rfl (any_of HT_.out (by kernel_rfl)) (fun _ _ _ h => h) (Or.inl ⟨by rfl, ?_⟩) ?_ ?_
                            rotate_left
                            ·intro w'
                             go_simp
                             with_reducible rfl
                            rotate_left
                            ·simp only [Act.put, List.setIfInBounds_toArray, List.set_cons_zero, List.set_cons_succ, i64_w, i32_w]
                             rfl
                            refine pure_ (i := 4) (N := some 127) (v := ?_) (a' := ?_) #[true, true, true, true, true, false, false, false, false, false, false, false, false, false] rfl rfl (any_of HT_.out (by kernel_rfl)) (fun _ _ _ h => h) (Or.inl ⟨by rfl, ?_⟩) ?_ ?_
                            rotate_left
                            ·intro w'
                             go_simp
                             with_reducible rfl
                            rotate_left
                            ·simp only [Act.put, List.setIfInBounds_toArray, List.set_cons_zero, List.set_cons_succ, i64_w, i32_w]
                             rfl
                            refine pure_ (i := 6) (N := some 129) (v := ?_) (a' := ?_) #[true, true, true, true, true, false, true, false, false, false, false, false, false, false] rfl rfl (any_of HT_.out (by kernel_rfl)) (fun _ _ _ h => h) (Or.inl ⟨by rfl, ?_⟩) ?_ ?_
                            rotate_left
                            ·intro w'
                             go_simp
                             with_reducible rfl
                            rotate_left
                            ·simp only [Act.put, List.setIfInBounds_toArray, List.set_cons_zero, List.set_cons_succ, i64_w, i32_w]
                             rfl
                            refine pure_ (i := 7) (N := some 130) (v := ?_) (a' := ?_) #[true, true, true, true, true, false, true, true, false, false, false, false, false, false] rfl rfl (any_of HT_.out (by kernel_rfl)) (fun _ _ _ h => h) (Or.inl ⟨by rfl, ?_⟩) ?_ ?_
                            rotate_left
                            ·intro w'
                             go_simp
                             with_reducible rfl
                            rotate_left
                            ·simp only [Act.put, List.setIfInBounds_toArray, List.set_cons_zero, List.set_cons_succ, i64_w, i32_w]
                             rfl
                            refine pure_ (i := 8) (N := some 131) (v := ?_) (a' := ?_) #[true, true, true, true, true, false, true, true, true, false, false, false, false, false] rfl rfl (any_of HT_.out (by kernel_rfl)) (fun _ _ _ h => h) (Or.inl ⟨by rfl, ?_⟩) ?_ ?_
                            rotate_left
                            ·intro w'
                             go_simp
                             with_reducible rfl
                            rotate_left
                            ·simp only [Act.put, List.setIfInBounds_toArray, List.set_cons_zero, List.set_cons_succ, i64_w, i32_w]
                             rfl
                            refine pure_ (i := 9) (N := some 132) (v := ?_) (a' := ?_) #[true, true, true, true, true, false, true, true, true, true, false, false, false, false] rfl rfl (any_of HT_.out (by kernel_rfl)) (fun _ _ _ h => h) (Or.inl ⟨by rfl, ?_⟩) ?_ ?_
                            rotate_left
                            ·intro w'
                             go_simp
                             with_reducible rfl
                            rotate_left
                            ·simp only [Act.put, List.setIfInBounds_toArray, List.set_cons_zero, List.set_cons_succ, i64_w, i32_w]
                             rfl
                            refine take_ (i := 5) (N := some 128) (v := ?_) (a' := ?_) #[true, true, true, true, true, true, true, true, true, true, false, false, false, false] rfl rfl (take_ofW HT_.out HW_.out (by kernel_rfl)) (fun _ _ _ h => h) (Or.inl ⟨by rfl, ?_⟩) hHeld ?_ ?_
                            rotate_left
                            ·rintro w' ⟨s0, s1, s2, s3, s4, s5⟩
                             go_simp
                             with_reducible rfl
                            rotate_left
                            ·simp only [Act.put, List.setIfInBounds_toArray, List.set_cons_zero, List.set_cons_succ, i64_w, i32_w]
                             rfl
                            refine take_ (i := 10) (N := some 133) (v := ?_) (a' := ?_) #[true, true, true, true, true, true, true, true, true, true, true, false, false, false] rfl rfl (take_ofW HT_.out HW_.out (by kernel_rfl)) (fun _ _ _ h => h) (Or.inl ⟨by rfl, ?_⟩) hHeld ?_ ?_
                            rotate_left
                            ·rintro w' ⟨s0, s1, s2, s3, s4, s5⟩
                             go_simp
                             with_reducible rfl
                            rotate_left
                            ·simp only [Act.put, List.setIfInBounds_toArray, List.set_cons_zero, List.set_cons_succ, i64_w, i32_w]
                             rfl
                            refine pure_ (i := 11) (N := some 134) (v := ?_) (a' := ?_) #[true, true, true, true, true, true, true, true, true, true, true, true, false, false] rfl rfl (any_of HT_.out (by kernel_rfl)) (fun _ _ _ h => h) (Or.inl ⟨by rfl, ?_⟩) ?_ ?_
                            rotate_left
                            ·intro w'
                             go_simp
                             with_reducible rfl
                            rotate_left
                            ·simp only [Act.put, List.setIfInBounds_toArray, List.set_cons_zero, List.set_cons_succ, i64_w, i32_w]
                             rfl
                            refine one_ (i := 12) (N := some 135) #[true, true, true, true, true, true, true, true, true, true, true, true, true, false] rfl rfl (one_of HT_.out (by kernel_rfl)) (by decide) (fun K hK => ?_)
                            refine goes_ Try.func60 (by kernel_rfl) rfl #[.slice (some ad32) t27.length co27, .agg #[.int .i64 ((rd_T68 t27 x15_4).f0), .int .i64 ((rd_T68 t27 x15_4).f1), .int .i64 1]] (by rfl) rfl rfl (by (try simp only [List.map_toArray, List.map_cons, List.map_nil]); first | rfl ) ?_
                            with_reducible refine (roadbooklaw20_place.calls kj31 _ _ t27 ((rd_T68 t27 x15_4).f0) ((rd_T68 t27 x15_4).f1) 1 t43 _ ?side1 ?side2 A46.out).mono ?_
                            (case side1 => exact cM (Kd.R_reads' HO_11.out).2.2)
                            (case side2 => exact (Kd.R_reads' HO_11.out).2.1)
                            rintro e w54 ⟨rfl, hb⟩
                            have HS0_ := (hb.cell (World.block_lt_of_cell? _ _ (hHeld.1))).trans (hHeld.1)
                            have HS1_ := (hb.cell (World.block_lt_of_cell? _ _ (hHeld.2.1))).trans (hHeld.2.1)
                            have HS2_ := (hb.cell (World.block_lt_of_cell? _ _ (hHeld.2.2.1))).trans (hHeld.2.2.1)
                            have HS3_ := (hb.cell (World.block_lt_of_cell? _ _ (hHeld.2.2.2.1))).trans (hHeld.2.2.2.1)
                            have HS4_ := (hb.cell (World.block_lt_of_cell? _ _ (hHeld.2.2.2.2.1))).trans (hHeld.2.2.2.2.1)
                            have HS5_ := (hb.cell (World.block_lt_of_cell? _ _ (hHeld.2.2.2.2.2))).trans (hHeld.2.2.2.2.2)
                            refine ⟨_, rfl, ?_⟩
                            replace HO_11 := Aside0.mk (Kd.R_below (rM HO_11.out) hb)
                            replace HO_31000 := Aside0.mk (Kd.R_below (rM HO_31000.out) hb)
                            replace HO_31001 := Aside0.mk (Kd.R_below (rM HO_31001.out) hb)
                            replace HO_31002 := Aside0.mk (Kd.R_below (rM HO_31002.out) hb)
                            replace BK11 := Aside0.mk (blk_below (kM BK11.out) hb)
                            replace BK30 := Aside0.mk (blk_below (kM BK30.out) hb)
                            replace HB := Aside0.mk (below_step (by exact wM HB.out) hb)
                            (try clear hb)
                            (try clear hb2)
                            (try clear hk)
                            (try clear hi)
                            refine hK.out _ _ ⟨HS0_, HS1_, HS2_, HS3_, HS4_, HS5_⟩ (fun hHeld => ?_)
                            clear hK K
                            refine norm_ (a' := ?_) ?_ ?_
                            rotate_left
                            ·show Act.put _ (some 135) _ = _
                             simp only [Act.put, List.setIfInBounds_toArray, List.set_cons_zero, List.set_cons_succ, i64_w, i32_w]
                             rfl
                            refine pure_ (i := 13) (N := some 17) (v := ?_) (a' := ?_) #[true, true, true, true, true, true, true, true, true, true, true, true, true, true] rfl rfl (any_of HT_.out (by kernel_rfl)) (fun _ _ _ h => h) (Or.inl ⟨by rfl, ?_⟩) ?_ ?_
                            rotate_left
                            ·intro w'
                             go_simp
                             with_reducible rfl
                            rotate_left
                            ·simp only [Act.put, List.setIfInBounds_toArray, List.set_cons_zero, List.set_cons_succ, i64_w, i32_w]
                             rfl
                            refine done_ (done_of HT_.out (by kernel_rfl)) ?_
                            try go_wp2
                            go_roundg kj31
                            case measure => have := HJ5.out; have := HK2.out; have := HK3.out; have := HK4.out; have := HJ31.out; omega
                            case rel => exact ⟨(wrap64 (x15_4 + 1)), (by rfl), H', ⟨by have := HJ5.out; have := HK2.out; have := HK3.out; have := HK4.out; have := HJ31.out; omega⟩, ⟨by (with_reducible repeat (first | apply Kd.R_alloc | apply Kd.R_drewN | apply Kd.R_drew)); exact HO_11.out⟩, ⟨by (with_reducible repeat (first | apply Kd.R_alloc | apply Kd.R_drewN | apply Kd.R_drew)); exact HO_31000.out⟩, ⟨by (with_reducible repeat (first | apply Kd.R_alloc | apply Kd.R_drewN | apply Kd.R_drew)); exact HO_31001.out⟩, ⟨by (with_reducible repeat (first | apply Kd.R_alloc | apply Kd.R_drewN | apply Kd.R_drew)); exact HO_31002.out⟩, ⟨kM BK11.out⟩, ⟨kM BK30.out⟩, ⟨by repeat ((with_reducible first | exact HB.out ))⟩⟩
                       ·rw [if_neg c44] at H
                        exact absurd H (by simp)
                      ·rw [if_neg c43] at H
                       exact absurd H (by simp)
                     ·rw [if_neg c42] at H
                      have c42b0 : (((rd_T68 t27 x15_4).f2) == 0) = false := beq_eq_false_iff_ne.mpr c42
                      have c42b1 : (((rd_T68 t27 x15_4).f2) != 0) = true := bne_iff_ne.mpr c42
                      have H' := Aside0.mk H
                      clear H
                      have p37 : 0 ≤ (x15_4 : Int) := of_decide_eq_true (by (with_reducible assumption))
                      have q37 : x15_4 < (t27.length : Int) := of_decide_eq_true (by (with_reducible assumption))
                      obtain ⟨ad37, e37, hx37_0, hx37_1, hx37_2⟩ := at_T68 (Kd.R_reads' HO_11.out).2.2 x15_4 p37 q37
                      obtain rfl : ad32 = ad37 := (by injection e37)
                      replace p37 := eq_true p37
                      replace q37 := eq_true q37
                      go_wp2
                      go_roundg kj31
                      case measure => have := HJ5.out; have := HK2.out; have := HK3.out; have := HK4.out; have := HJ31.out; omega
                      case rel => exact ⟨(wrap64 (x15_4 + 1)), (by rfl), H', ⟨by have := HJ5.out; have := HK2.out; have := HK3.out; have := HK4.out; have := HJ31.out; omega⟩, ⟨by (with_reducible repeat (first | apply Kd.R_alloc | apply Kd.R_drewN | apply Kd.R_drew)); exact HO_11.out⟩, ⟨by (with_reducible repeat (first | apply Kd.R_alloc | apply Kd.R_drewN | apply Kd.R_drew)); exact HO_31000.out⟩, ⟨by (with_reducible repeat (first | apply Kd.R_alloc | apply Kd.R_drewN | apply Kd.R_drew)); exact HO_31001.out⟩, ⟨by (with_reducible repeat (first | apply Kd.R_alloc | apply Kd.R_drewN | apply Kd.R_drew)); exact HO_31002.out⟩, ⟨kM BK11.out⟩, ⟨kM BK30.out⟩, ⟨by repeat ((with_reducible first | exact HB.out ))⟩⟩
                    ·rw [if_neg c41] at H
                     exact absurd H (by simp)
                   ·rw [if_neg c40] at H
                    exact absurd H (by simp)
               ·rw [if_neg c31] at H
                have c31b0 : decide (x15_4 < (t27.length : Int)) = false := decide_eq_false c31
                clear c31
                have H' := Aside0.mk H
                clear H
                go_wp2
                go_roundg k4
                case measure => have := HJ5.out; have := HK2.out; have := HK3.out; have := HK4.out; omega
                case rel => exact ⟨(wrap64 (x14_3 + 1)), (by rfl), H', ⟨by have := HJ5.out; have := HK2.out; have := HK3.out; have := HK4.out; omega⟩, ⟨by (with_reducible repeat (first | apply Kd.R_alloc | apply Kd.R_drewN | apply Kd.R_drew)); exact HO_11.out⟩, ⟨by (with_reducible repeat (first | apply Kd.R_alloc | apply Kd.R_drewN | apply Kd.R_drew)); exact HO_31000.out⟩, ⟨by (with_reducible repeat (first | apply Kd.R_alloc | apply Kd.R_drewN | apply Kd.R_drew)); exact HO_31001.out⟩, ⟨by (with_reducible repeat (first | apply Kd.R_alloc | apply Kd.R_drewN | apply Kd.R_drew)); exact HO_31002.out⟩, ⟨kM BK11.out⟩, ⟨kM BK30.out⟩, ⟨by repeat ((with_reducible first | exact HB.out ))⟩⟩
            ·rw [if_neg c30] at H
             have c30b0 : (((rd_T68 t27 x14_3).f2) == 2) = false := beq_eq_false_iff_ne.mpr c30
             have c30b1 : (((rd_T68 t27 x14_3).f2) != 2) = true := bne_iff_ne.mpr c30
             have H' := Aside0.mk H
             clear H
             have p32 : 0 ≤ (x14_3 : Int) := of_decide_eq_true (by (with_reducible assumption))
             have q32 : x14_3 < (t27.length : Int) := of_decide_eq_true (by (with_reducible assumption))
             obtain ⟨ad32, e32, hx32_0, hx32_1, hx32_2⟩ := at_T68 (Kd.R_reads' HO_11.out).2.2 x14_3 p32 q32
             cases e32
             replace p32 := eq_true p32
             replace q32 := eq_true q32
             go_wp2
             go_roundg k3
             case measure => have := HJ5.out; have := HK2.out; have := HK3.out; omega
             case rel => exact ⟨(wrap64 (x14_3 + 1)), (by rfl), H', ⟨by have := HJ5.out; have := HK2.out; have := HK3.out; omega⟩, ⟨by (with_reducible repeat (first | apply Kd.R_alloc | apply Kd.R_drewN | apply Kd.R_drew)); exact HO_11.out⟩, ⟨by (with_reducible repeat (first | apply Kd.R_alloc | apply Kd.R_drewN | apply Kd.R_drew)); exact HO_31000.out⟩, ⟨by (with_reducible repeat (first | apply Kd.R_alloc | apply Kd.R_drewN | apply Kd.R_drew)); exact HO_31001.out⟩, ⟨by (with_reducible repeat (first | apply Kd.R_alloc | apply Kd.R_drewN | apply Kd.R_drew)); exact HO_31002.out⟩, ⟨kM BK11.out⟩, ⟨kM BK30.out⟩, ⟨by repeat ((with_reducible first | exact HB.out ))⟩⟩
           ·rw [if_neg c29] at H
            exact absurd H (by simp)
          ·rw [if_neg c28] at H
           have c28b0 : decide (x14_3 < (t27.length : Int)) = false := decide_eq_false c28
           clear c28
           obtain rfl := Option.some.inj H
           go_wp2
           go_ret
           exact ⟨by rfl, by repeat ((with_reducible first | exact HB.out ))⟩
       ·rw [if_neg c26] at H
        have c26b0 : ((t27.length : Int) == x12_2) = false := beq_eq_false_iff_ne.mpr c26
        have c26b1 : ((t27.length : Int) != x12_2) = true := bne_iff_ne.mpr c26
        exact absurd (HRT.out.symm.trans (Option.some.inj H).symm) (by decide)

end Go.Proofs.Ytkidnomkfdnciaa.All
