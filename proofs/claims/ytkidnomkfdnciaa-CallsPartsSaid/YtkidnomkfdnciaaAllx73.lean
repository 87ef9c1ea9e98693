/- Functions of the program as plain Lean functions, and proofs that the calls do what these say; written for this claim by a program of the session (wip/tools/mkprint.py), checked by Lean. -/
import Derived.Test.YtkidnomkfdnciaaAllx0
import Derived.Test.YtkidnomkfdnciaaBk
import Derived.Test.YtkidnomkfdnciaaMv
import Derived.Test.YtkidnomkfdnciaaAllx9
import Derived.Test.YtkidnomkfdnciaaAllx18
import Derived.Test.YtkidnomkfdnciaaAllx27
import Derived.Test.YtkidnomkfdnciaaAllx40
import Derived.Test.YtkidnomkfdnciaaAllx50
import Derived.Test.YtkidnomkfdnciaaAllx56
namespace Go.Proofs.Ytkidnomkfdnciaa.All
open Go.RowKit Go.Proofs.YtkidnomkfdnciaaW.PrintWords Go.Proofs.YtkidnomkfdnciaaW.PrintLast Go.Proofs.YtkidnomkfdnciaaW.PrintMore
attribute [local go_sem] max2_int min2_int max_two min_two max_three min_three max_four min_four   -- for this text's walks alone
set_option linter.unusedVariables false
set_option linter.unusedSimpArgs false

/-! ### roadbooklaw20_CallsParts: function 19 -/
def roadbooklaw20_CallsParts.j0 : Nat → List (S76) → List (S76) → Bool → Bool → List (S48) → List Int → List Int → Option (Bool)
 | 0, _, _, _, _, _, _, _ => none
 | k + 1, x1, x2, x7, x37, x12000, x12001, x12002 => if x37 = true then (some x7) else (if ([] : List (S76)).length + x1.length < 2513169434916 then ((some (([] : List (S76)) ++ x1 : List (S76))).bind fun y15 => (if y15.length + x2.length < 2513169434916 then ((calls_All.f k x12000 x12001 x12002 (y15 ++ x2)).bind fun bt21 => ((calls_All.f k x12000 x12001 x12002 x1).bind fun bt34 => ((calls_All.f k bt34.1 bt34.2.1 bt34.2.2.1 x2).bind fun bt47 => (if ([] : List (S73)).length + bt34.2.2.2.length < 8796093022208 then ((some (([] : List (S73)) ++ bt34.2.2.2 : List (S73))).bind fun y60 => (if y60.length + bt47.2.2.2.length < 8796093022208 then ((roadbookref20_Backs.f k bt21.2.2.2 (y60 ++ bt47.2.2.2)).bind fun t66 => (if t66 = true then ((memo_Same.f k bt21.1 bt21.2.1 bt21.2.2.1 bt47.1 bt47.2.1 bt47.2.2.1).bind fun t67 => (if t67 = true then ((memo_May.f bt21.1 bt21.2.1 bt21.2.2.1).bind fun t68 => (if t68 = true then (some ((bt21.2.2.2.length : Int) == (wrap64 ((x1.length : Int) + (x2.length : Int))))) else (some false))) else (some false))) else (some false))) else (none))) else (none))))) else (none))) else (none))
def roadbooklaw20_CallsParts.f (k : Nat) (l0_0 : List (S48)) (l0_1 : List Int) (l0_2 : List Int) (l1 : List (S76)) (l2 : List (S76)) : Option (Bool) := (roadbooklaw20_awake.f k).bind fun t12 => (if t12 = true then (if (l1.length : Int) > 12 then (roadbooklaw20_CallsParts.j0 k l1 l2 t12 true l0_0 l0_1 l0_2) else (if (l2.length : Int) > 12 then (roadbooklaw20_CallsParts.j0 k l1 l2 t12 true l0_0 l0_1 l0_2) else ((roadbooklaw16_Far.f l0_0 l0_1 l0_2 20).bind fun t13 => (if t13 = 0 then ((memo_May.f l0_0 l0_1 l0_2).bind fun t14 => (roadbooklaw20_CallsParts.j0 k l1 l2 t12 (!t14) l0_0 l0_1 l0_2)) else (roadbooklaw20_CallsParts.j0 k l1 l2 t12 true l0_0 l0_1 l0_2))))) else (roadbooklaw20_CallsParts.j0 k l1 l2 t12 true l0_0 l0_1 l0_2))
def roadbooklaw20_CallsParts.T4 : Bool × List (List Nat × List Nat) := (true, [([], []), ([], []), ([1], [1]), ([], []), ([2, 3, 2], [2, 3]), ([0, 4, 4], [0, 4]), ([5], [5]), ([6], [6]), ([6], [6]), ([], []), ([9, 7, 5, 0, 1, 2, 3, 4, 5, 6, 7, 9], [7, 9]), ([8, 10, 0, 1, 2, 3, 4, 5, 6, 7, 8, 9, 10], [8])])
def roadbooklaw20_CallsParts.B4 : List Nat := [0, 0, 2, 0, 14, 31, 63, 127, 127, 0, 767, 2047]
theorem roadbooklaw20_CallsParts.tab4 : rtab .any (opsOf Try.f19 4) = roadbooklaw20_CallsParts.T4 := by kernel_rfl
theorem roadbooklaw20_CallsParts.bits4 : waitsOk roadbooklaw20_CallsParts.T4.2 roadbooklaw20_CallsParts.B4 = true := by kernel_rfl
set_option maxHeartbeats 8000000 in
set_option maxRecDepth 100000 in
theorem roadbooklaw20_CallsParts.calls (k : Nat) (A0_0 : Option Addr) (c0_0 : Nat) (l0_0 : List (S48)) (A0_1 : Option Addr) (c0_1 : Nat) (l0_1 : List Int) (A0_2 : Option Addr) (c0_2 : Nat) (l0_2 : List Int) (A1 : Option Addr) (c1 : Nat) (l1 : List (S76)) (A2 : Option Addr) (c2 : Nat) (l2 : List (S76)) (r : Bool) (w : World) (hr0_0 : Kd.C k48 w A0_0 l0_0.length l0_0) (hc0_0 : l0_0.length ≤ c0_0) (hr0_1 : Kd.C (Kd.int .i64) w A0_1 l0_1.length l0_1) (hc0_1 : l0_1.length ≤ c0_1) (hr0_2 : Kd.C (Kd.int .i64) w A0_2 l0_2.length l0_2) (hc0_2 : l0_2.length ≤ c0_2) (hr1 : Kd.C k76 w A1 l1.length l1) (hc1 : l1.length ≤ c1) (hr2 : Kd.C k76 w A2 l2.length l2) (hc2 : l2.length ≤ c2) (hrt : r = true) (h : roadbooklaw20_CallsParts.f k l0_0 l0_1 l0_2 l1 l2 = some r) :
  Calls Try.prog 19 #[.agg #[.slice A0_0 l0_0.length c0_0, .slice A0_1 l0_1.length c0_1, .slice A0_2 l0_2.length c0_2], .slice A1 l1.length c1, .slice A2 l2.length c2] w fun e w' => e = .returned (.bool r) ∧ Below w.heap.size w w' := by
 have HRT := Aside0.mk hrt
 clear hrt
 have hu38 := Try.underlying38
 have HR0_0 := Aside0.mk hr0_0
 have HC0_0 := Aside0.mk hc0_0
 clear hr0_0 hc0_0
 have HR0_1 := Aside0.mk hr0_1
 have HC0_1 := Aside0.mk hc0_1
 clear hr0_1 hc0_1
 have HR0_2 := Aside0.mk hr0_2
 have HC0_2 := Aside0.mk hc0_2
 clear hr0_2 hc0_2
 have HR1 := Aside0.mk hr1
 have HC1 := Aside0.mk hc1
 clear hr1 hc1
 have HR2 := Aside0.mk hr2
 have HC2 := Aside0.mk hc2
 clear hr2 hc2
 have HB := Aside0.mk (Below.refl w.heap.size w)
 have H : ((roadbooklaw20_awake.f k).bind fun t12 => (if t12 = true then (if (l1.length : Int) > 12 then (roadbooklaw20_CallsParts.j0 k l1 l2 t12 true l0_0 l0_1 l0_2) else (if (l2.length : Int) > 12 then (roadbooklaw20_CallsParts.j0 k l1 l2 t12 true l0_0 l0_1 l0_2) else ((roadbooklaw16_Far.f l0_0 l0_1 l0_2 20).bind fun t13 => (if t13 = 0 then ((memo_May.f l0_0 l0_1 l0_2).bind fun t14 => (roadbooklaw20_CallsParts.j0 k l1 l2 t12 (!t14) l0_0 l0_1 l0_2)) else (roadbooklaw20_CallsParts.j0 k l1 l2 t12 true l0_0 l0_1 l0_2))))) else (roadbooklaw20_CallsParts.j0 k l1 l2 t12 true l0_0 l0_1 l0_2))) = some r := h
 clear h
 replace H := Option.bind_eq_some_iff.mp H
 obtain ⟨t12, A40, H⟩ := H
 have A4 := Aside0.mk A40
 clear A40
 have HC5 := Aside0.mk H
 clear H
 go_enter Try.func19, Try.ntmps19
 go_upto_region 2 with (first | ((with_reducible refine gate_dst (N := 3) rfl ?_); (try (refine gate_guard (by rfl) ?_; dsimp only)); refine box_event ?hg (N := 3) ?hd (cs := #[.slice A0_0 l0_0.length c0_0, .slice A0_1 l0_1.length c0_1, .slice A0_2 l0_2.length c0_2]) (t := 38) ?hr ?_; (case hd => rfl); (case hg => rfl); (case hr => first | (go_simp; done) ); intro gb11 hg w6 hbox hb; have BK11 := Aside0.mk (hbox); have GW11 := Aside0.mk ((by rw [hg]; exact (below_size (by exact wM HB.out)) : w.heap.size ≤ gb11)); have GE11 := Aside0.mk ((by rw [hg]; exact (below_size (by exact wM HB.out)) : w.heap.size ≤ gb11)); replace HB := Aside0.mk (below_step (by exact wM HB.out) hb); clear hb hbox hg) | ((with_reducible refine gate_callee (f := 56) rfl ?_); refine goesL_ (some 15) rfl rfl Try.func56 (by kernel_rfl) rfl #[] rfl (by (try simp only [List.map_toArray, List.map_cons, List.map_nil]); first | done ) ?_; (with_reducible refine (roadbooklaw20_awake.calls k  t12 _ A4.out).mono ?_); rintro e w7 ⟨rfl, hb⟩; refine ⟨_, rfl, ?_⟩; replace BK11 := Aside0.mk (blk_below (kM BK11.out) hb); replace HB := Aside0.mk (below_step (by exact wM HB.out) hb); (try clear hb); ))
 (try simp only [Act.put, List.setIfInBounds_toArray, List.set_cons_zero, List.set_cons_succ])
 go_cut [37] (fun v37 wc => ∃ (kq : Nat) (x37_4 : Bool), v37 = .bool x37_4 ∧ Aside0 (roadbooklaw20_CallsParts.j0 kq l1 l2 t12 x37_4 l0_0 l0_1 l0_2 = some r) ∧ Aside0 (kq ≤ k) ∧ Aside0 (wc.heap[gb11]? = some (.cells #[(.slice A0_0 l0_0.length c0_0), (.slice A0_1 l0_1.length c0_1), (.slice A0_2 l0_2.length c0_2)] 38 (0, 0))) ∧ Aside0 (Below w.heap.size w wc))
 case first =>
  have H := HC5.out
  clear HC5
  by_cases c8 : t12 = true
  ·subst c8
   rw [if_pos rfl] at H
   by_cases c9 : (l1.length : Int) > 12
   ·rw [if_pos c9] at H
    have c9b0 : decide (12 < (l1.length : Int)) = true := decide_eq_true c9
    have c9b1 : decide (12 < l1.length) = true := decide_eq_true (by omega)
    clear c9
    (skip)
    have H' := Aside0.mk H
    clear H
    go_wp2
    go_meet
    case rel => exact ⟨_, (true), (by rfl), H', ⟨by omega⟩, ⟨kM BK11.out⟩, ⟨by repeat ((with_reducible first | exact HB.out ))⟩⟩
   ·rw [if_neg c9] at H
    have c9b0 : decide (12 < (l1.length : Int)) = false := decide_eq_false c9
    have c9b1 : decide (12 < l1.length) = false := decide_eq_false (by omega)
    clear c9
    (skip)
    by_cases c10 : (l2.length : Int) > 12
    ·rw [if_pos c10] at H
     have c10b0 : decide (12 < (l2.length : Int)) = true := decide_eq_true c10
     have c10b1 : decide (12 < l2.length) = true := decide_eq_true (by omega)
     clear c10
     have H' := Aside0.mk H
     clear H
     go_wp2
     go_meet
     case rel => exact ⟨_, (true), (by rfl), H', ⟨by omega⟩, ⟨kM BK11.out⟩, ⟨by repeat ((with_reducible first | exact HB.out ))⟩⟩
    ·rw [if_neg c10] at H
     have c10b0 : decide (12 < (l2.length : Int)) = false := decide_eq_false c10
     have c10b1 : decide (12 < l2.length) = false := decide_eq_false (by omega)
     clear c10
     replace H := Option.bind_eq_some_iff.mp H
     obtain ⟨t13, A110, H⟩ := H
     have A11 := Aside0.mk A110
     clear A110
     by_cases c12 : t13 = 0
     ·rw [if_pos c12] at H
      have c12b0 : (t13 == 0) = true := beq_iff_eq.mpr c12
      have c12b1 : (t13 != 0) = false := bne_eq_false_iff_eq.mpr c12
      clear c12
      replace H := Option.bind_eq_some_iff.mp H
      obtain ⟨t14, A130, H⟩ := H
      have A13 := Aside0.mk A130
      clear A130
      have H' := Aside0.mk H
      clear H
      obtain ⟨hcz14_0, hcz14_1, hcz14_2, hfz14_0, hfz14_1, hfz14_2⟩ := bk3 BK11.out
      go_wp2_with (first | (go_at_call 58; (with_reducible refine (roadbooklaw16_Far.calls _ _ l0_0 _ _ l0_1 _ _ l0_2 20 t13 _ ?side1 ?side2 ?side3 ?side4 ?side5 ?side6 A11.out).mono ?_); (case side1 => exact cM (Kd.C_below HR0_0.out HB.out)); (case side2 => exact HC0_0.out); (case side3 => exact cM (Kd.C_below HR0_1.out HB.out)); (case side4 => exact HC0_1.out); (case side5 => exact cM (Kd.C_below HR0_2.out HB.out)); (case side6 => exact HC0_2.out); rintro e w15 ⟨rfl, hb⟩; replace BK11 := Aside0.mk (blk_below (kM BK11.out) hb); replace HB := Aside0.mk (below_step (by exact wM HB.out) hb); (try clear hb); obtain ⟨hcz16_0, hcz16_1, hcz16_2, hfz16_0, hfz16_1, hfz16_2⟩ := bk3 BK11.out) | (go_at_call 41; (with_reducible refine (memo_May.calls _ _ l0_0 _ _ l0_1 _ _ l0_2 t14 _ ?side1 ?side2 ?side3 ?side4 ?side5 ?side6 A13.out).mono ?_); (case side1 => exact cM (Kd.C_below HR0_0.out HB.out)); (case side2 => exact HC0_0.out); (case side3 => exact cM (Kd.C_below HR0_1.out HB.out)); (case side4 => exact HC0_1.out); (case side5 => exact cM (Kd.C_below HR0_2.out HB.out)); (case side6 => exact HC0_2.out); rintro e w17 ⟨rfl, hb⟩; replace BK11 := Aside0.mk (blk_below (kM BK11.out) hb); replace HB := Aside0.mk (below_step (by exact wM HB.out) hb); (try clear hb); ))
      go_meet
      case rel => exact ⟨_, (!t14), (by rfl), H', ⟨by omega⟩, ⟨kM BK11.out⟩, ⟨by repeat ((with_reducible first | exact HB.out ))⟩⟩
     ·rw [if_neg c12] at H
      have c12b0 : (t13 == 0) = false := beq_eq_false_iff_ne.mpr c12
      have c12b1 : (t13 != 0) = true := bne_iff_ne.mpr c12
      have H' := Aside0.mk H
      clear H
      obtain ⟨hcz18_0, hcz18_1, hcz18_2, hfz18_0, hfz18_1, hfz18_2⟩ := bk3 BK11.out
      go_wp2_with ((go_at_call 58; (with_reducible refine (roadbooklaw16_Far.calls _ _ l0_0 _ _ l0_1 _ _ l0_2 20 t13 _ ?side1 ?side2 ?side3 ?side4 ?side5 ?side6 A11.out).mono ?_); (case side1 => exact cM (Kd.C_below HR0_0.out HB.out)); (case side2 => exact HC0_0.out); (case side3 => exact cM (Kd.C_below HR0_1.out HB.out)); (case side4 => exact HC0_1.out); (case side5 => exact cM (Kd.C_below HR0_2.out HB.out)); (case side6 => exact HC0_2.out); rintro e w19 ⟨rfl, hb⟩; replace BK11 := Aside0.mk (blk_below (kM BK11.out) hb); replace HB := Aside0.mk (below_step (by exact wM HB.out) hb); (try clear hb); ))
      go_meet
      case rel => exact ⟨_, (true), (by rfl), H', ⟨by omega⟩, ⟨kM BK11.out⟩, ⟨by repeat ((with_reducible first | exact HB.out ))⟩⟩
  ·replace c8 := Bool.eq_false_iff.mpr c8
   subst c8
   rw [if_neg (show ¬ (false = true) by decide)] at H
   have H' := Aside0.mk H
   clear H
   go_wp2
   go_meet
   case rel => exact ⟨_, (true), (by rfl), H', ⟨by omega⟩, ⟨kM BK11.out⟩, ⟨by repeat ((with_reducible first | exact HB.out ))⟩⟩
 case rest =>
  clear HC5
  obtain ⟨kq, x37_4, rfl, HA, HJ4, BK11, HB⟩ := hcut
  cases kq with
  | zero => exact absurd HA.out (by simp [roadbooklaw20_CallsParts.j0])
  | succ kj4 =>
   have H := HA.out
   clear HA
   simp only [roadbooklaw20_CallsParts.j0] at H
   by_cases c20 : x37_4 = true
   ·subst c20
    rw [if_pos rfl] at H
    obtain rfl := Option.some.inj H
    go_wp2
    go_ret
    exact ⟨by rfl, by repeat ((with_reducible first | exact HB.out ))⟩
   ·replace c20 := Bool.eq_false_iff.mpr c20
    subst c20
    rw [if_neg (show ¬ (false = true) by decide)] at H
    by_cases c21 : ([] : List (S76)).length + l1.length < 2513169434916
    ·rw [if_pos c21] at H
     have LMc21 := Aside0.mk c21
     clear c21
     obtain ⟨y15, hy15⟩ : ∃ y_ : List (S76), y_ = (([] : List (S76)) ++ l1) := ⟨_, rfl⟩
     replace H : (if y15.length + l2.length < 2513169434916 then ((calls_All.f kj4 l0_0 l0_1 l0_2 (y15 ++ l2)).bind fun bt21 => ((calls_All.f kj4 l0_0 l0_1 l0_2 l1).bind fun bt34 => ((calls_All.f kj4 bt34.1 bt34.2.1 bt34.2.2.1 l2).bind fun bt47 => (if ([] : List (S73)).length + bt34.2.2.2.length < 8796093022208 then ((some (([] : List (S73)) ++ bt34.2.2.2 : List (S73))).bind fun y60 => (if y60.length + bt47.2.2.2.length < 8796093022208 then ((roadbookref20_Backs.f kj4 bt21.2.2.2 (y60 ++ bt47.2.2.2)).bind fun t66 => (if t66 = true then ((memo_Same.f kj4 bt21.1 bt21.2.1 bt21.2.2.1 bt47.1 bt47.2.1 bt47.2.2.1).bind fun t67 => (if t67 = true then ((memo_May.f bt21.1 bt21.2.1 bt21.2.2.1).bind fun t68 => (if t68 = true then (some ((bt21.2.2.2.length : Int) == (wrap64 ((l1.length : Int) + (l2.length : Int))))) else (some false))) else (some false))) else (some false))) else (none))) else (none))))) else (none)) = some r := by (have H2_ := (Option.bind_some _ _).symm.trans H; rw [hy15]; with_reducible exact H2_)
     have Ny15 := Aside0.mk hy15
     clear hy15
     by_cases c22 : y15.length + l2.length < 2513169434916
     ·rw [if_pos c22] at H
      have LMc22 := Aside0.mk c22
      clear c22
      obtain ⟨y18, hy18⟩ : ∃ y_ : List (S76), y_ = (y15 ++ l2) := ⟨_, rfl⟩
      replace H : ((calls_All.f kj4 l0_0 l0_1 l0_2 y18).bind fun bt21 => ((calls_All.f kj4 l0_0 l0_1 l0_2 l1).bind fun bt34 => ((calls_All.f kj4 bt34.1 bt34.2.1 bt34.2.2.1 l2).bind fun bt47 => (if ([] : List (S73)).length + bt34.2.2.2.length < 8796093022208 then ((some (([] : List (S73)) ++ bt34.2.2.2 : List (S73))).bind fun y60 => (if y60.length + bt47.2.2.2.length < 8796093022208 then ((roadbookref20_Backs.f kj4 bt21.2.2.2 (y60 ++ bt47.2.2.2)).bind fun t66 => (if t66 = true then ((memo_Same.f kj4 bt21.1 bt21.2.1 bt21.2.2.1 bt47.1 bt47.2.1 bt47.2.2.1).bind fun t67 => (if t67 = true then ((memo_May.f bt21.1 bt21.2.1 bt21.2.2.1).bind fun t68 => (if t68 = true then (some ((bt21.2.2.2.length : Int) == (wrap64 ((l1.length : Int) + (l2.length : Int))))) else (some false))) else (some false))) else (some false))) else (none))) else (none))))) = some r := by (rw [hy18]; with_reducible exact H)
      have Ny18 := Aside0.mk hy18
      clear hy18
      replace H := Option.bind_eq_some_iff.mp H
      obtain ⟨⟨t21, t24, t27, t30⟩, A230, H⟩ := H
      replace H : ((calls_All.f kj4 l0_0 l0_1 l0_2 l1).bind fun bt34 => ((calls_All.f kj4 bt34.1 bt34.2.1 bt34.2.2.1 l2).bind fun bt47 => (if ([] : List (S73)).length + bt34.2.2.2.length < 8796093022208 then ((some (([] : List (S73)) ++ bt34.2.2.2 : List (S73))).bind fun y60 => (if y60.length + bt47.2.2.2.length < 8796093022208 then ((roadbookref20_Backs.f kj4 t30 (y60 ++ bt47.2.2.2)).bind fun t66 => (if t66 = true then ((memo_Same.f kj4 t21 t24 t27 bt47.1 bt47.2.1 bt47.2.2.1).bind fun t67 => (if t67 = true then ((memo_May.f t21 t24 t27).bind fun t68 => (if t68 = true then (some ((t30.length : Int) == (wrap64 ((l1.length : Int) + (l2.length : Int))))) else (some false))) else (some false))) else (some false))) else (none))) else (none)))) = some r := H
      have A23 := Aside0.mk A230
      clear A230
      replace H := Option.bind_eq_some_iff.mp H
      obtain ⟨⟨t34, t37, t40, t43⟩, A240, H⟩ := H
      replace H : ((calls_All.f kj4 t34 t37 t40 l2).bind fun bt47 => (if ([] : List (S73)).length + t43.length < 8796093022208 then ((some (([] : List (S73)) ++ t43 : List (S73))).bind fun y60 => (if y60.length + bt47.2.2.2.length < 8796093022208 then ((roadbookref20_Backs.f kj4 t30 (y60 ++ bt47.2.2.2)).bind fun t66 => (if t66 = true then ((memo_Same.f kj4 t21 t24 t27 bt47.1 bt47.2.1 bt47.2.2.1).bind fun t67 => (if t67 = true then ((memo_May.f t21 t24 t27).bind fun t68 => (if t68 = true then (some ((t30.length : Int) == (wrap64 ((l1.length : Int) + (l2.length : Int))))) else (some false))) else (some false))) else (some false))) else (none))) else (none))) = some r := H
      have A24 := Aside0.mk A240
      clear A240
      replace H := Option.bind_eq_some_iff.mp H
      obtain ⟨⟨t47, t50, t53, t56⟩, A250, H⟩ := H
      replace H : (if ([] : List (S73)).length + t43.length < 8796093022208 then ((some (([] : List (S73)) ++ t43 : List (S73))).bind fun y60 => (if y60.length + t56.length < 8796093022208 then ((roadbookref20_Backs.f kj4 t30 (y60 ++ t56)).bind fun t66 => (if t66 = true then ((memo_Same.f kj4 t21 t24 t27 t47 t50 t53).bind fun t67 => (if t67 = true then ((memo_May.f t21 t24 t27).bind fun t68 => (if t68 = true then (some ((t30.length : Int) == (wrap64 ((l1.length : Int) + (l2.length : Int))))) else (some false))) else (some false))) else (some false))) else (none))) else (none)) = some r := H
      have A25 := Aside0.mk A250
      clear A250
      by_cases c26 : ([] : List (S73)).length + t43.length < 8796093022208
      ·rw [if_pos c26] at H
       have LMc26 := Aside0.mk c26
       clear c26
       obtain ⟨y60, hy60⟩ : ∃ y_ : List (S73), y_ = (([] : List (S73)) ++ t43) := ⟨_, rfl⟩
       replace H : (if y60.length + t56.length < 8796093022208 then ((roadbookref20_Backs.f kj4 t30 (y60 ++ t56)).bind fun t66 => (if t66 = true then ((memo_Same.f kj4 t21 t24 t27 t47 t50 t53).bind fun t67 => (if t67 = true then ((memo_May.f t21 t24 t27).bind fun t68 => (if t68 = true then (some ((t30.length : Int) == (wrap64 ((l1.length : Int) + (l2.length : Int))))) else (some false))) else (some false))) else (some false))) else (none)) = some r := by (have H2_ := (Option.bind_some _ _).symm.trans H; rw [hy60]; with_reducible exact H2_)
       have Ny60 := Aside0.mk hy60
       clear hy60
       by_cases c27 : y60.length + t56.length < 8796093022208
       ·rw [if_pos c27] at H
        have LMc27 := Aside0.mk c27
        clear c27
        obtain ⟨y63, hy63⟩ : ∃ y_ : List (S73), y_ = (y60 ++ t56) := ⟨_, rfl⟩
        replace H : ((roadbookref20_Backs.f kj4 t30 y63).bind fun t66 => (if t66 = true then ((memo_Same.f kj4 t21 t24 t27 t47 t50 t53).bind fun t67 => (if t67 = true then ((memo_May.f t21 t24 t27).bind fun t68 => (if t68 = true then (some ((t30.length : Int) == (wrap64 ((l1.length : Int) + (l2.length : Int))))) else (some false))) else (some false))) else (some false))) = some r := by (rw [hy63]; with_reducible exact H)
        have Ny63 := Aside0.mk hy63
        clear hy63
        replace H := Option.bind_eq_some_iff.mp H
        obtain ⟨t66, A280, H⟩ := H
        have A28 := Aside0.mk A280
        clear A280
        by_cases c29 : t66 = true
        ·subst c29
         rw [if_pos rfl] at H
         replace H := Option.bind_eq_some_iff.mp H
         obtain ⟨t67, A300, H⟩ := H
         have A30 := Aside0.mk A300
         clear A300
         by_cases c31 : t67 = true
         ·subst c31
          rw [if_pos rfl] at H
          replace H := Option.bind_eq_some_iff.mp H
          obtain ⟨t68, A320, H⟩ := H
          have A32 := Aside0.mk A320
          clear A320
          by_cases c33 : t68 = true
          ·subst c33
           rw [if_pos rfl] at H
           obtain rfl := Option.some.inj H
           try go_wp2
           replace BK11 := Aside0.mk (blk_drew BK11.out)
           replace HB := Aside0.mk (below_drew1 HB.out)
           refine start_ (n := 12) (S := fun w' => w'.cell? ⟨gb11, 0, none⟩ = some (.slice A0_0 l0_0.length c0_0) ∧ w'.cell? ⟨gb11, 1, none⟩ = some (.slice A0_1 l0_1.length c0_1) ∧ w'.cell? ⟨gb11, 2, none⟩ = some (.slice A0_2 l0_2.length c0_2)) (ds := []) #[false, false, false, false, false, false, false, false, false, false, false, false] (by kernel_rfl) rfl rfl ⟨(blk_cell BK11.out 0).trans rfl, (blk_cell BK11.out 1).trans rfl, (blk_cell BK11.out 2).trans rfl⟩ (fun hHeld => ?_); refine with_tabW roadbooklaw20_CallsParts.tab4 roadbooklaw20_CallsParts.bits4 (fun HT_ HW_ => ?_)
           generalize wc.drew = w34 at BK11 HB hHeld ⊢
           refine pure_ (i := 1) (N := some 41) (v := ?_) (a' := ?_) #[false, true, false, false, false, false, false, false, false, false, false, false] rfl rfl (any_of HT_.out (by kernel_rfl)) (fun _ _ _ h => h) (Or.inl ⟨by rfl, ?_⟩) ?_ ?_
           rotate_left
           ·intro w'
            go_simp
            with_reducible rfl
           rotate_left
           ·simp only [Act.put, List.setIfInBounds_toArray, List.set_cons_zero, List.set_cons_succ, i64_w, i32_w]
            rfl
           refine pure_ (i := 3) (N := some 43) (v := ?_) (a' := ?_) #[false, true, false, true, false, false, false, false, false, false, false, false] rfl rfl (any_of HT_.out (by kernel_rfl)) (fun _ _ _ h => h) (Or.inl ⟨by rfl, ?_⟩) ?_ ?_
           rotate_left
           ·intro w'
            go_simp
            with_reducible rfl
           rotate_left
           ·simp only [Act.put, List.setIfInBounds_toArray, List.set_cons_zero, List.set_cons_succ, i64_w, i32_w]
            rfl
           refine take_ (i := 0) (N := some 40) (v := ?_) (a' := ?_) #[true, true, false, true, false, false, false, false, false, false, false, false] rfl rfl (take_ofW HT_.out HW_.out (by kernel_rfl)) (fun _ _ _ h => h) (Or.inl ⟨by rfl, ?_⟩) hHeld ?_ ?_
           rotate_left
           ·rintro w' ⟨s0, s1, s2⟩
            go_simp
            with_reducible rfl
           rotate_left
           ·simp only [Act.put, List.setIfInBounds_toArray, List.set_cons_zero, List.set_cons_succ, i64_w, i32_w]
            rfl
           refine join_ (σ := Value × Value × Value × Value × Value × Value × Nat) 2 #[true, true, true, true, true, true, true, true, true, true, false, false] (fun s_ => [(42, s_.1), (44, s_.2.1), (45, .tuple #[.agg #[s_.2.2.1, s_.2.2.2.1, s_.2.2.2.2.1], s_.2.2.2.2.2.1]), (8, .pointer (some ⟨s_.2.2.2.2.2.2, 0, none⟩)), (39, .tuple #[.agg #[s_.2.2.1, s_.2.2.2.1, s_.2.2.2.2.1], s_.2.2.2.2.2.1]), (46, .agg #[s_.2.2.1, s_.2.2.2.1, s_.2.2.2.2.1]), (47, s_.2.2.2.2.2.1)]) (fun s_ w' => (w'.cell? ⟨gb11, 0, none⟩ = some (.slice A0_0 l0_0.length c0_0) ∧ w'.cell? ⟨gb11, 1, none⟩ = some (.slice A0_1 l0_1.length c0_1) ∧ w'.cell? ⟨gb11, 2, none⟩ = some (.slice A0_2 l0_2.length c0_2)) ∧ (Kd.R k76 76 w' w.heap.size (fun _ => True) s_.2.1 y18) ∧ (Kd.R k48 48 w' w.heap.size (fun _ => True) s_.2.2.1 t21) ∧ (Kd.R (Kd.int .i64) 3 w' w.heap.size (fun k_ => some k_ ≠ (s_.2.2.2.2.1 : Value).ownBlock) s_.2.2.2.1 t24) ∧ (Kd.R (Kd.int .i64) 3 w' w.heap.size (fun k_ => some k_ ≠ (s_.2.2.2.1 : Value).ownBlock) s_.2.2.2.2.1 t27) ∧ (Kd.R k73 73 w' w.heap.size (fun _ => True) s_.2.2.2.2.2.1 t30) ∧ (w'.heap[gb11]? = some (.cells #[.slice A0_0 l0_0.length c0_0, .slice A0_1 l0_1.length c0_1, .slice A0_2 l0_2.length c0_2] 38 (0, 0))) ∧ (w'.heap[s_.2.2.2.2.2.2]? = some (.cells #[.slice none 0 0, .slice none 0 0, .slice none 0 0] 38 (0, 0))) ∧ (w.heap.size ≤ s_.2.2.2.2.2.2) ∧ (w.heap.size ≤ s_.2.2.2.2.2.2) ∧ (gb11 ≠ s_.2.2.2.2.2.2) ∧ (s_.2.2.2.2.2.2 ≠ gb11) ∧ (Below w.heap.size w w')) ?_ ?_
           rotate_left
           ·intro hCont
            refine two_ (i := 2) (j := 9) (Ni := some 42) (Nj := some 8) #[true, true, true, true, false, false, false, false, false, false, false, false] #[true, true, false, true, false, false, false, false, false, true, false, false] rfl rfl rfl rfl (two_of HT_.out (by kernel_rfl)) (by decide) (by decide) (fun K hK => ?_) (fun K hK => ?_)
            ·skip
             refine Kd.R_append_rows_step k76 (w0 := w) w.heap.size (by rfl) (.const (.slice none 0 0)) (.tmp 41) 66 76 (.agg #[(.int .i64 0), (.bool false), (.int .i64 0), (.int .i64 0), (.int .i64 0), (.int .i64 0), (.int .i64 0)]) 56 rfl Try.underlying66 info76 rfl (by decide) (by omega) (.slice none 0 0) ([] : List (S76)) l1 _ _ _ (fun _ => True) (fun _ => False) rfl rfl ?aO ?aR (fun _ _ h => h) (fun _ h => h.elim) ?aF ?aB ?aS ?aL ?_
             (case aR => exact cM (Kd.C_below HR1.out HB.out))
             (case aB => exact (by exact wM HB.out))
             (case aF => exact (fun _ _ => trivial))
             (case aO => exact ((Kd.R_nil _ _ _ _ (fun _ => True))))
             (case aS => exact (below_size (by exact wM HB.out)))
             (case aL => have := LMc21.out; omega)
             intro v16 w35 ho hb hg hat
             rw [← Ny15.out] at ho
             replace BK11 := Aside0.mk (blk_grown (kM BK11.out) hg (by simp [Value.ownBlock]))
             replace HB := Aside0.mk (hb)
             have HO17 := Aside0.mk (ho)
             clear ho hb hg hat
             refine hK.out _ _ ⟨(blk_cell BK11.out 0).trans rfl, (blk_cell BK11.out 1).trans rfl, (blk_cell BK11.out 2).trans rfl⟩ (fun hHeld => ?_)
             clear hK K
             refine norm_ (a' := ?_) ?_ ?_
             rotate_left
             ·show Act.put _ (some 42) _ = _
              simp only [Act.put, List.setIfInBounds_toArray, List.set_cons_zero, List.set_cons_succ, i64_w, i32_w]
              rfl
             refine two_ (i := 4) (j := 9) (Ni := some 44) (Nj := some 8) #[true, true, true, true, true, false, false, false, false, false, false, false] #[true, true, true, true, false, false, false, false, false, true, false, false] rfl rfl rfl rfl (two_of HT_.out (by kernel_rfl)) (by decide) (by decide) (fun K hK => ?_) (fun K hK => ?_)
             ·skip
              refine Kd.R_append_rows_step k76 (w0 := w) w.heap.size (by rfl) (.tmp 42) (.tmp 43) 66 76 (.agg #[(.int .i64 0), (.bool false), (.int .i64 0), (.int .i64 0), (.int .i64 0), (.int .i64 0), (.int .i64 0)]) 56 rfl Try.underlying66 info76 rfl (by decide) (by omega) v16 y15 l2 _ _ _ (fun _ => True) (fun _ => False) rfl rfl ?aO ?aR (fun _ _ h => h) (fun _ h => h.elim) ?aF ?aB ?aS ?aL ?_
              (case aR => exact cM (Kd.C_below HR2.out HB.out))
              (case aB => exact (by exact wM HB.out))
              (case aF => exact (fun _ _ => trivial))
              (case aO => exact (rM HO17.out))
              (case aS => exact (below_size (by exact wM HB.out)))
              (case aL => have := LMc22.out; omega)
              intro v19 w36 ho hb hg hat
              rw [← Ny18.out] at ho
              replace BK11 := Aside0.mk (blk_grown (kM BK11.out) hg (Kd.R_ne HO17.out BK11.out (by decide)))
              replace HB := Aside0.mk (hb)
              have HO20 := Aside0.mk (ho)
              clear HO17
              clear ho hb hg hat
              obtain ⟨Ao37, co37, eo37⟩ := Kd.R_slice HO20.out
              (subst eo37)
              refine hK.out _ _ ⟨(blk_cell BK11.out 0).trans rfl, (blk_cell BK11.out 1).trans rfl, (blk_cell BK11.out 2).trans rfl⟩ (fun hHeld => ?_)
              clear hK K
              refine norm_ (a' := ?_) ?_ ?_
              rotate_left
              ·show Act.put _ (some 44) _ = _
               simp only [Act.put, List.setIfInBounds_toArray, List.set_cons_zero, List.set_cons_succ, i64_w, i32_w]
               rfl
              refine two_ (i := 5) (j := 9) (Ni := some 45) (Nj := some 8) #[true, true, true, true, true, true, false, false, false, false, false, false] #[true, true, true, true, true, false, false, false, false, true, false, false] rfl rfl rfl rfl (two_of HT_.out (by kernel_rfl)) (by decide) (by decide) (fun K hK => ?_) (fun K hK => ?_)
              ·skip
               refine goes_ Try.func61 (by kernel_rfl) rfl #[.agg #[.slice A0_0 l0_0.length c0_0, .slice A0_1 l0_1.length c0_1, .slice A0_2 l0_2.length c0_2], .slice Ao37 y18.length co37] (by rfl) rfl rfl (by (try simp only [List.map_toArray, List.map_cons, List.map_nil]); first | rfl ) ?_
               with_reducible refine (calls_All.calls kj4 _ _ l0_0 _ _ l0_1 _ _ l0_2 _ _ y18 t21 t24 t27 t30 _ ?side1 ?side2 ?side3 ?side4 ?side5 ?side6 ?side7 ?side8 A23.out).mono ?_
               (case side1 => exact cM (Kd.C_below HR0_0.out HB.out))
               (case side2 => exact HC0_0.out)
               (case side3 => exact cM (Kd.C_below HR0_1.out HB.out))
               (case side4 => exact HC0_1.out)
               (case side5 => exact cM (Kd.C_below HR0_2.out HB.out))
               (case side6 => exact HC0_2.out)
               (case side7 => exact cM (Kd.R_reads' HO20.out).2.2)
               (case side8 => exact (Kd.R_reads' HO20.out).2.1)
               rintro e w38 ⟨v22, v25, v28, v31, rfl, ho0, ho1, ho2, ho3, hb⟩
               refine ⟨_, rfl, ?_⟩
               replace HO20 := Aside0.mk (Kd.R_below (rM HO20.out) hb)
               have HO23 := Aside0.mk (Kd.R_lower ho0 (below_size (by exact wM HB.out)))
               have HO26 := Aside0.mk (Kd.R_lower ho1 (below_size (by exact wM HB.out)))
               have HO29 := Aside0.mk (Kd.R_lower ho2 (below_size (by exact wM HB.out)))
               have HO32 := Aside0.mk (Kd.R_lower ho3 (below_size (by exact wM HB.out)))
               replace BK11 := Aside0.mk (blk_below (kM BK11.out) hb)
               replace HB := Aside0.mk (below_step (by exact wM HB.out) hb)
               (try clear hb)
               (try clear hb2)
               (try clear hk)
               (try clear hi)
               (try clear ho0)
               (try clear ho1)
               (try clear ho2)
               (try clear ho3)
               refine hK.out _ _ ⟨(blk_cell BK11.out 0).trans rfl, (blk_cell BK11.out 1).trans rfl, (blk_cell BK11.out 2).trans rfl⟩ (fun hHeld => ?_)
               clear hK K
               refine norm_ (a' := ?_) ?_ ?_
               rotate_left
               ·show Act.put _ (some 45) _ = _
                simp only [Act.put, List.setIfInBounds_toArray, List.set_cons_zero, List.set_cons_succ, i64_w, i32_w]
                rfl
               refine pure_ (i := 6) (N := some 39) (v := ?_) (a' := ?_) #[true, true, true, true, true, true, true, false, false, false, false, false] rfl rfl (any_of HT_.out (by kernel_rfl)) (fun _ _ _ h => h) (Or.inl ⟨by rfl, ?_⟩) ?_ ?_
               rotate_left
               ·intro w'
                go_simp
                with_reducible rfl
               rotate_left
               ·simp only [Act.put, List.setIfInBounds_toArray, List.set_cons_zero, List.set_cons_succ, i64_w, i32_w]
                rfl
               refine pure_ (i := 7) (N := some 46) (v := ?_) (a' := ?_) #[true, true, true, true, true, true, true, true, false, false, false, false] rfl rfl (any_of HT_.out (by kernel_rfl)) (fun _ _ _ h => h) (Or.inl ⟨by rfl, ?_⟩) ?_ ?_
               rotate_left
               ·intro w'
                go_simp
                with_reducible rfl
               rotate_left
               ·simp only [Act.put, List.setIfInBounds_toArray, List.set_cons_zero, List.set_cons_succ, i64_w, i32_w]
                rfl
               refine pure_ (i := 8) (N := some 47) (v := ?_) (a' := ?_) #[true, true, true, true, true, true, true, true, true, false, false, false] rfl rfl (any_of HT_.out (by kernel_rfl)) (fun _ _ _ h => h) (Or.inl ⟨by rfl, ?_⟩) ?_ ?_
               rotate_left
               ·intro w'
                go_simp
                with_reducible rfl
               rotate_left
               ·simp only [Act.put, List.setIfInBounds_toArray, List.set_cons_zero, List.set_cons_succ, i64_w, i32_w]
                rfl
               refine one_ (i := 9) (N := some 8) #[true, true, true, true, true, true, true, true, true, true, false, false] rfl rfl (one_of HT_.out (by kernel_rfl)) (by decide) (fun K hK => ?_)
               refine box_step ?hg (N := 8) ?hd (cs := #[.slice none 0 0, .slice none 0 0, .slice none 0 0]) (t := 38) ?hr ?_; (case hd => rfl); (case hg => rfl); (case hr => first | (go_simp; done) )
               intro gb33 hg w39 hbox hb
               replace HO20 := Aside0.mk (Kd.R_below (rM HO20.out) hb)
               replace HO23 := Aside0.mk (Kd.R_below (rM HO23.out) hb)
               replace HO26 := Aside0.mk (Kd.R_below (rM HO26.out) hb)
               replace HO29 := Aside0.mk (Kd.R_below (rM HO29.out) hb)
               replace HO32 := Aside0.mk (Kd.R_below (rM HO32.out) hb)
               have BK33 := Aside0.mk (hbox)
               have GW33 := Aside0.mk ((by rw [hg]; exact (below_size (by exact wM HB.out)) : w.heap.size ≤ gb33))
               have GE33 := Aside0.mk ((by rw [hg]; exact (below_size (by exact wM HB.out)) : w.heap.size ≤ gb33))
               replace HB := Aside0.mk (below_step (by exact wM HB.out) hb)
               have NB11_33 := Aside0.mk ((by rw [hg]; exact Nat.ne_of_lt (blk_lt (kM BK11.out)) : gb11 ≠ gb33))
               have NB33_11 := Aside0.mk ((by rw [hg]; exact Nat.ne_of_gt (blk_lt (kM BK11.out)) : gb33 ≠ gb11))
               replace BK11 := Aside0.mk (blk_below (kM BK11.out) hb)
               clear hb hbox hg
               refine hK.out _ _ ⟨(blk_cell BK11.out 0).trans rfl, (blk_cell BK11.out 1).trans rfl, (blk_cell BK11.out 2).trans rfl⟩ (fun hHeld => ?_)
               clear hK K
               refine norm_ (a' := ?_) ?_ ?_
               rotate_left
               ·show Act.put _ (some 8) _ = _
                simp only [Act.put, List.setIfInBounds_toArray, List.set_cons_zero, List.set_cons_succ, i64_w, i32_w]
                rfl
               exact norm_ (by simp only [putAll, Act.put, List.setIfInBounds_toArray, List.set_cons_zero, List.set_cons_succ]) (hCont (v16, .slice Ao37 y18.length co37, v22, v25, v28, v31, gb33) _ ⟨hHeld, (rM HO20.out), (rM HO23.out), (rM HO26.out), (rM HO29.out), (rM HO32.out), (kM BK11.out), (kM BK33.out), GW33.out, GE33.out, NB11_33.out, NB33_11.out, (by exact wM HB.out)⟩)
              ·skip
               refine box_step ?hg (N := 8) ?hd (cs := #[.slice none 0 0, .slice none 0 0, .slice none 0 0]) (t := 38) ?hr ?_; (case hd => rfl); (case hg => rfl); (case hr => first | (go_simp; done) )
               intro gb33 hg w37 hbox hb
               replace HO20 := Aside0.mk (Kd.R_below (rM HO20.out) hb)
               have BK33 := Aside0.mk (hbox)
               have GW33 := Aside0.mk ((by rw [hg]; exact (below_size (by exact wM HB.out)) : w.heap.size ≤ gb33))
               have GE33 := Aside0.mk ((by rw [hg]; exact (below_size (by exact wM HB.out)) : w.heap.size ≤ gb33))
               replace HB := Aside0.mk (below_step (by exact wM HB.out) hb)
               have NB11_33 := Aside0.mk ((by rw [hg]; exact Nat.ne_of_lt (blk_lt (kM BK11.out)) : gb11 ≠ gb33))
               have NB33_11 := Aside0.mk ((by rw [hg]; exact Nat.ne_of_gt (blk_lt (kM BK11.out)) : gb33 ≠ gb11))
               replace BK11 := Aside0.mk (blk_below (kM BK11.out) hb)
               clear hb hbox hg
               obtain ⟨Ao38, co38, eo38⟩ := Kd.R_slice HO20.out
               ((injection eo38 with f1_ f2_ f3_; have f4_ := f1_.symm; have f5_ := f3_.symm; clear f1_ f2_ f3_; subst f4_; subst f5_))
               refine hK.out _ _ ⟨(blk_cell BK11.out 0).trans rfl, (blk_cell BK11.out 1).trans rfl, (blk_cell BK11.out 2).trans rfl⟩ (fun hHeld => ?_)
               clear hK K
               refine norm_ (a' := ?_) ?_ ?_
               rotate_left
               ·show Act.put _ (some 8) _ = _
                simp only [Act.put, List.setIfInBounds_toArray, List.set_cons_zero, List.set_cons_succ, i64_w, i32_w]
                rfl
               refine one_ (i := 5) (N := some 45) #[true, true, true, true, true, true, false, false, false, true, false, false] rfl rfl (one_of HT_.out (by kernel_rfl)) (by decide) (fun K hK => ?_)
               refine goes_ Try.func61 (by kernel_rfl) rfl #[.agg #[.slice A0_0 l0_0.length c0_0, .slice A0_1 l0_1.length c0_1, .slice A0_2 l0_2.length c0_2], .slice Ao38 y18.length co38] (by rfl) rfl rfl (by (try simp only [List.map_toArray, List.map_cons, List.map_nil]); first | rfl ) ?_
               with_reducible refine (calls_All.calls kj4 _ _ l0_0 _ _ l0_1 _ _ l0_2 _ _ y18 t21 t24 t27 t30 _ ?side1 ?side2 ?side3 ?side4 ?side5 ?side6 ?side7 ?side8 A23.out).mono ?_
               (case side1 => exact cM (Kd.C_below HR0_0.out HB.out))
               (case side2 => exact HC0_0.out)
               (case side3 => exact cM (Kd.C_below HR0_1.out HB.out))
               (case side4 => exact HC0_1.out)
               (case side5 => exact cM (Kd.C_below HR0_2.out HB.out))
               (case side6 => exact HC0_2.out)
               (case side7 => exact cM (Kd.R_reads' HO20.out).2.2)
               (case side8 => exact (Kd.R_reads' HO20.out).2.1)
               rintro e w39 ⟨v22, v25, v28, v31, rfl, ho0, ho1, ho2, ho3, hb⟩
               refine ⟨_, rfl, ?_⟩
               replace HO20 := Aside0.mk (Kd.R_below (rM HO20.out) hb)
               have HO23 := Aside0.mk (Kd.R_lower ho0 (below_size (by exact wM HB.out)))
               have HO26 := Aside0.mk (Kd.R_lower ho1 (below_size (by exact wM HB.out)))
               have HO29 := Aside0.mk (Kd.R_lower ho2 (below_size (by exact wM HB.out)))
               have HO32 := Aside0.mk (Kd.R_lower ho3 (below_size (by exact wM HB.out)))
               replace BK11 := Aside0.mk (blk_below (kM BK11.out) hb)
               replace BK33 := Aside0.mk (blk_below (kM BK33.out) hb)
               replace HB := Aside0.mk (below_step (by exact wM HB.out) hb)
               (try clear hb)
               (try clear hb2)
               (try clear hk)
               (try clear hi)
               (try clear ho0)
               (try clear ho1)
               (try clear ho2)
               (try clear ho3)
               refine hK.out _ _ ⟨(blk_cell BK11.out 0).trans rfl, (blk_cell BK11.out 1).trans rfl, (blk_cell BK11.out 2).trans rfl⟩ (fun hHeld => ?_)
               clear hK K
               refine norm_ (a' := ?_) ?_ ?_
               rotate_left
               ·show Act.put _ (some 45) _ = _
                simp only [Act.put, List.setIfInBounds_toArray, List.set_cons_zero, List.set_cons_succ, i64_w, i32_w]
                rfl
               refine pure_ (i := 6) (N := some 39) (v := ?_) (a' := ?_) #[true, true, true, true, true, true, true, false, false, true, false, false] rfl rfl (any_of HT_.out (by kernel_rfl)) (fun _ _ _ h => h) (Or.inl ⟨by rfl, ?_⟩) ?_ ?_
               rotate_left
               ·intro w'
                go_simp
                with_reducible rfl
               rotate_left
               ·simp only [Act.put, List.setIfInBounds_toArray, List.set_cons_zero, List.set_cons_succ, i64_w, i32_w]
                rfl
               refine pure_ (i := 7) (N := some 46) (v := ?_) (a' := ?_) #[true, true, true, true, true, true, true, true, false, true, false, false] rfl rfl (any_of HT_.out (by kernel_rfl)) (fun _ _ _ h => h) (Or.inl ⟨by rfl, ?_⟩) ?_ ?_
               rotate_left
               ·intro w'
                go_simp
                with_reducible rfl
               rotate_left
               ·simp only [Act.put, List.setIfInBounds_toArray, List.set_cons_zero, List.set_cons_succ, i64_w, i32_w]
                rfl
               refine pure_ (i := 8) (N := some 47) (v := ?_) (a' := ?_) #[true, true, true, true, true, true, true, true, true, true, false, false] rfl rfl (any_of HT_.out (by kernel_rfl)) (fun _ _ _ h => h) (Or.inl ⟨by rfl, ?_⟩) ?_ ?_
               rotate_left
               ·intro w'
                go_simp
                with_reducible rfl
               rotate_left
               ·simp only [Act.put, List.setIfInBounds_toArray, List.set_cons_zero, List.set_cons_succ, i64_w, i32_w]
                rfl
               exact norm_ (by simp only [putAll, Act.put, List.setIfInBounds_toArray, List.set_cons_zero, List.set_cons_succ]) (hCont (v16, .slice Ao38 y18.length co38, v22, v25, v28, v31, gb33) _ ⟨hHeld, (rM HO20.out), (rM HO23.out), (rM HO26.out), (rM HO29.out), (rM HO32.out), (kM BK11.out), (kM BK33.out), GW33.out, GE33.out, NB11_33.out, NB33_11.out, (by exact wM HB.out)⟩)
             ·skip
              refine box_step ?hg (N := 8) ?hd (cs := #[.slice none 0 0, .slice none 0 0, .slice none 0 0]) (t := 38) ?hr ?_; (case hd => rfl); (case hg => rfl); (case hr => first | (go_simp; done) )
              intro gb33 hg w36 hbox hb
              replace HO17 := Aside0.mk (Kd.R_below (rM HO17.out) hb)
              have BK33 := Aside0.mk (hbox)
              have GW33 := Aside0.mk ((by rw [hg]; exact (below_size (by exact wM HB.out)) : w.heap.size ≤ gb33))
              have GE33 := Aside0.mk ((by rw [hg]; exact (below_size (by exact wM HB.out)) : w.heap.size ≤ gb33))
              replace HB := Aside0.mk (below_step (by exact wM HB.out) hb)
              have NB11_33 := Aside0.mk ((by rw [hg]; exact Nat.ne_of_lt (blk_lt (kM BK11.out)) : gb11 ≠ gb33))
              have NB33_11 := Aside0.mk ((by rw [hg]; exact Nat.ne_of_gt (blk_lt (kM BK11.out)) : gb33 ≠ gb11))
              replace BK11 := Aside0.mk (blk_below (kM BK11.out) hb)
              clear hb hbox hg
              refine hK.out _ _ ⟨(blk_cell BK11.out 0).trans rfl, (blk_cell BK11.out 1).trans rfl, (blk_cell BK11.out 2).trans rfl⟩ (fun hHeld => ?_)
              clear hK K
              refine norm_ (a' := ?_) ?_ ?_
              rotate_left
              ·show Act.put _ (some 8) _ = _
               simp only [Act.put, List.setIfInBounds_toArray, List.set_cons_zero, List.set_cons_succ, i64_w, i32_w]
               rfl
              refine one_ (i := 4) (N := some 44) #[true, true, true, true, true, false, false, false, false, true, false, false] rfl rfl (one_of HT_.out (by kernel_rfl)) (by decide) (fun K hK => ?_)
              refine Kd.R_append_rows_step k76 (w0 := w) w.heap.size (by rfl) (.tmp 42) (.tmp 43) 66 76 (.agg #[(.int .i64 0), (.bool false), (.int .i64 0), (.int .i64 0), (.int .i64 0), (.int .i64 0), (.int .i64 0)]) 56 rfl Try.underlying66 info76 rfl (by decide) (by omega) v16 y15 l2 _ _ _ (fun _ => True) (fun _ => False) rfl rfl ?aO ?aR (fun _ _ h => h) (fun _ h => h.elim) ?aF ?aB ?aS ?aL ?_
              (case aR => exact cM (Kd.C_below HR2.out HB.out))
              (case aB => exact (by exact wM HB.out))
              (case aF => exact (fun _ _ => trivial))
              (case aO => exact (rM HO17.out))
              (case aS => exact (below_size (by exact wM HB.out)))
              (case aL => have := LMc22.out; omega)
              intro v19 w37 ho hb hg hat
              rw [← Ny18.out] at ho
              replace BK11 := Aside0.mk (blk_grown (kM BK11.out) hg (Kd.R_ne HO17.out BK11.out (by decide)))
              replace BK33 := Aside0.mk (blk_grown (kM BK33.out) hg (Kd.R_ne HO17.out BK33.out (by decide)))
              replace HB := Aside0.mk (hb)
              have HO20 := Aside0.mk (ho)
              clear HO17
              clear ho hb hg hat
              obtain ⟨Ao38, co38, eo38⟩ := Kd.R_slice HO20.out
              (subst eo38)
              refine hK.out _ _ ⟨(blk_cell BK11.out 0).trans rfl, (blk_cell BK11.out 1).trans rfl, (blk_cell BK11.out 2).trans rfl⟩ (fun hHeld => ?_)
              clear hK K
              refine norm_ (a' := ?_) ?_ ?_
              rotate_left
              ·show Act.put _ (some 44) _ = _
               simp only [Act.put, List.setIfInBounds_toArray, List.set_cons_zero, List.set_cons_succ, i64_w, i32_w]
               rfl
              refine one_ (i := 5) (N := some 45) #[true, true, true, true, true, true, false, false, false, true, false, false] rfl rfl (one_of HT_.out (by kernel_rfl)) (by decide) (fun K hK => ?_)
              refine goes_ Try.func61 (by kernel_rfl) rfl #[.agg #[.slice A0_0 l0_0.length c0_0, .slice A0_1 l0_1.length c0_1, .slice A0_2 l0_2.length c0_2], .slice Ao38 y18.length co38] (by rfl) rfl rfl (by (try simp only [List.map_toArray, List.map_cons, List.map_nil]); first | rfl ) ?_
              with_reducible refine (calls_All.calls kj4 _ _ l0_0 _ _ l0_1 _ _ l0_2 _ _ y18 t21 t24 t27 t30 _ ?side1 ?side2 ?side3 ?side4 ?side5 ?side6 ?side7 ?side8 A23.out).mono ?_
              (case side1 => exact cM (Kd.C_below HR0_0.out HB.out))
              (case side2 => exact HC0_0.out)
              (case side3 => exact cM (Kd.C_below HR0_1.out HB.out))
              (case side4 => exact HC0_1.out)
              (case side5 => exact cM (Kd.C_below HR0_2.out HB.out))
              (case side6 => exact HC0_2.out)
              (case side7 => exact cM (Kd.R_reads' HO20.out).2.2)
              (case side8 => exact (Kd.R_reads' HO20.out).2.1)
              rintro e w39 ⟨v22, v25, v28, v31, rfl, ho0, ho1, ho2, ho3, hb⟩
              refine ⟨_, rfl, ?_⟩
              replace HO20 := Aside0.mk (Kd.R_below (rM HO20.out) hb)
              have HO23 := Aside0.mk (Kd.R_lower ho0 (below_size (by exact wM HB.out)))
              have HO26 := Aside0.mk (Kd.R_lower ho1 (below_size (by exact wM HB.out)))
              have HO29 := Aside0.mk (Kd.R_lower ho2 (below_size (by exact wM HB.out)))
              have HO32 := Aside0.mk (Kd.R_lower ho3 (below_size (by exact wM HB.out)))
              replace BK11 := Aside0.mk (blk_below (kM BK11.out) hb)
              replace BK33 := Aside0.mk (blk_below (kM BK33.out) hb)
              replace HB := Aside0.mk (below_step (by exact wM HB.out) hb)
              (try clear hb)
              (try clear hb2)
              (try clear hk)
              (try clear hi)
              (try clear ho0)
              (try clear ho1)
              (try clear ho2)
              (try clear ho3)
              refine hK.out _ _ ⟨(blk_cell BK11.out 0).trans rfl, (blk_cell BK11.out 1).trans rfl, (blk_cell BK11.out 2).trans rfl⟩ (fun hHeld => ?_)
              clear hK K
              refine norm_ (a' := ?_) ?_ ?_
              rotate_left
              ·show Act.put _ (some 45) _ = _
               simp only [Act.put, List.setIfInBounds_toArray, List.set_cons_zero, List.set_cons_succ, i64_w, i32_w]
               rfl
              refine pure_ (i := 6) (N := some 39) (v := ?_) (a' := ?_) #[true, true, true, true, true, true, true, false, false, true, false, false] rfl rfl (any_of HT_.out (by kernel_rfl)) (fun _ _ _ h => h) (Or.inl ⟨by rfl, ?_⟩) ?_ ?_
              rotate_left
              ·intro w'
               go_simp
               with_reducible rfl
              rotate_left
              ·simp only [Act.put, List.setIfInBounds_toArray, List.set_cons_zero, List.set_cons_succ, i64_w, i32_w]
               rfl
              refine pure_ (i := 7) (N := some 46) (v := ?_) (a' := ?_) #[true, true, true, true, true, true, true, true, false, true, false, false] rfl rfl (any_of HT_.out (by kernel_rfl)) (fun _ _ _ h => h) (Or.inl ⟨by rfl, ?_⟩) ?_ ?_
              rotate_left
              ·intro w'
               go_simp
               with_reducible rfl
              rotate_left
              ·simp only [Act.put, List.setIfInBounds_toArray, List.set_cons_zero, List.set_cons_succ, i64_w, i32_w]
               rfl
              refine pure_ (i := 8) (N := some 47) (v := ?_) (a' := ?_) #[true, true, true, true, true, true, true, true, true, true, false, false] rfl rfl (any_of HT_.out (by kernel_rfl)) (fun _ _ _ h => h) (Or.inl ⟨by rfl, ?_⟩) ?_ ?_
              rotate_left
              ·intro w'
               go_simp
               with_reducible rfl
              rotate_left
              ·simp only [Act.put, List.setIfInBounds_toArray, List.set_cons_zero, List.set_cons_succ, i64_w, i32_w]
               rfl
              exact norm_ (by simp only [putAll, Act.put, List.setIfInBounds_toArray, List.set_cons_zero, List.set_cons_succ]) (hCont (v16, .slice Ao38 y18.length co38, v22, v25, v28, v31, gb33) _ ⟨hHeld, (rM HO20.out), (rM HO23.out), (rM HO26.out), (rM HO29.out), (rM HO32.out), (kM BK11.out), (kM BK33.out), GW33.out, GE33.out, NB11_33.out, NB33_11.out, (by exact wM HB.out)⟩)
            ·skip
             refine box_step ?hg (N := 8) ?hd (cs := #[.slice none 0 0, .slice none 0 0, .slice none 0 0]) (t := 38) ?hr ?_; (case hd => rfl); (case hg => rfl); (case hr => first | (go_simp; done) )
             intro gb33 hg w35 hbox hb
             have BK33 := Aside0.mk (hbox)
             have GW33 := Aside0.mk ((by rw [hg]; exact (below_size (by exact wM HB.out)) : w.heap.size ≤ gb33))
             have GE33 := Aside0.mk ((by rw [hg]; exact (below_size (by exact wM HB.out)) : w.heap.size ≤ gb33))
             replace HB := Aside0.mk (below_step (by exact wM HB.out) hb)
             have NB11_33 := Aside0.mk ((by rw [hg]; exact Nat.ne_of_lt (blk_lt (kM BK11.out)) : gb11 ≠ gb33))
             have NB33_11 := Aside0.mk ((by rw [hg]; exact Nat.ne_of_gt (blk_lt (kM BK11.out)) : gb33 ≠ gb11))
             replace BK11 := Aside0.mk (blk_below (kM BK11.out) hb)
             clear hb hbox hg
             refine hK.out _ _ ⟨(blk_cell BK11.out 0).trans rfl, (blk_cell BK11.out 1).trans rfl, (blk_cell BK11.out 2).trans rfl⟩ (fun hHeld => ?_)
             clear hK K
             refine norm_ (a' := ?_) ?_ ?_
             rotate_left
             ·show Act.put _ (some 8) _ = _
              simp only [Act.put, List.setIfInBounds_toArray, List.set_cons_zero, List.set_cons_succ, i64_w, i32_w]
              rfl
             refine one_ (i := 2) (N := some 42) #[true, true, true, true, false, false, false, false, false, true, false, false] rfl rfl (one_of HT_.out (by kernel_rfl)) (by decide) (fun K hK => ?_)
             refine Kd.R_append_rows_step k76 (w0 := w) w.heap.size (by rfl) (.const (.slice none 0 0)) (.tmp 41) 66 76 (.agg #[(.int .i64 0), (.bool false), (.int .i64 0), (.int .i64 0), (.int .i64 0), (.int .i64 0), (.int .i64 0)]) 56 rfl Try.underlying66 info76 rfl (by decide) (by omega) (.slice none 0 0) ([] : List (S76)) l1 _ _ _ (fun _ => True) (fun _ => False) rfl rfl ?aO ?aR (fun _ _ h => h) (fun _ h => h.elim) ?aF ?aB ?aS ?aL ?_
             (case aR => exact cM (Kd.C_below HR1.out HB.out))
             (case aB => exact (by exact wM HB.out))
             (case aF => exact (fun _ _ => trivial))
             (case aO => exact ((Kd.R_nil _ _ _ _ (fun _ => True))))
             (case aS => exact (below_size (by exact wM HB.out)))
             (case aL => have := LMc21.out; omega)
             intro v16 w36 ho hb hg hat
             rw [← Ny15.out] at ho
             replace BK11 := Aside0.mk (blk_grown (kM BK11.out) hg (by simp [Value.ownBlock]))
             replace BK33 := Aside0.mk (blk_grown (kM BK33.out) hg (by simp [Value.ownBlock]))
             replace HB := Aside0.mk (hb)
             have HO17 := Aside0.mk (ho)
             clear ho hb hg hat
             refine hK.out _ _ ⟨(blk_cell BK11.out 0).trans rfl, (blk_cell BK11.out 1).trans rfl, (blk_cell BK11.out 2).trans rfl⟩ (fun hHeld => ?_)
             clear hK K
             refine norm_ (a' := ?_) ?_ ?_
             rotate_left
             ·show Act.put _ (some 42) _ = _
              simp only [Act.put, List.setIfInBounds_toArray, List.set_cons_zero, List.set_cons_succ, i64_w, i32_w]
              rfl
             refine one_ (i := 4) (N := some 44) #[true, true, true, true, true, false, false, false, false, true, false, false] rfl rfl (one_of HT_.out (by kernel_rfl)) (by decide) (fun K hK => ?_)
             refine Kd.R_append_rows_step k76 (w0 := w) w.heap.size (by rfl) (.tmp 42) (.tmp 43) 66 76 (.agg #[(.int .i64 0), (.bool false), (.int .i64 0), (.int .i64 0), (.int .i64 0), (.int .i64 0), (.int .i64 0)]) 56 rfl Try.underlying66 info76 rfl (by decide) (by omega) v16 y15 l2 _ _ _ (fun _ => True) (fun _ => False) rfl rfl ?aO ?aR (fun _ _ h => h) (fun _ h => h.elim) ?aF ?aB ?aS ?aL ?_
             (case aR => exact cM (Kd.C_below HR2.out HB.out))
             (case aB => exact (by exact wM HB.out))
             (case aF => exact (fun _ _ => trivial))
             (case aO => exact (rM HO17.out))
             (case aS => exact (below_size (by exact wM HB.out)))
             (case aL => have := LMc22.out; omega)
             intro v19 w37 ho hb hg hat
             rw [← Ny18.out] at ho
             replace BK11 := Aside0.mk (blk_grown (kM BK11.out) hg (Kd.R_ne HO17.out BK11.out (by decide)))
             replace BK33 := Aside0.mk (blk_grown (kM BK33.out) hg (Kd.R_ne HO17.out BK33.out (by decide)))
             replace HB := Aside0.mk (hb)
             have HO20 := Aside0.mk (ho)
             clear HO17
             clear ho hb hg hat
             obtain ⟨Ao38, co38, eo38⟩ := Kd.R_slice HO20.out
             (subst eo38)
             refine hK.out _ _ ⟨(blk_cell BK11.out 0).trans rfl, (blk_cell BK11.out 1).trans rfl, (blk_cell BK11.out 2).trans rfl⟩ (fun hHeld => ?_)
             clear hK K
             refine norm_ (a' := ?_) ?_ ?_
             rotate_left
             ·show Act.put _ (some 44) _ = _
              simp only [Act.put, List.setIfInBounds_toArray, List.set_cons_zero, List.set_cons_succ, i64_w, i32_w]
              rfl
             refine one_ (i := 5) (N := some 45) #[true, true, true, true, true, true, false, false, false, true, false, false] rfl rfl (one_of HT_.out (by kernel_rfl)) (by decide) (fun K hK => ?_)
             refine goes_ Try.func61 (by kernel_rfl) rfl #[.agg #[.slice A0_0 l0_0.length c0_0, .slice A0_1 l0_1.length c0_1, .slice A0_2 l0_2.length c0_2], .slice Ao38 y18.length co38] (by rfl) rfl rfl (by (try simp only [List.map_toArray, List.map_cons, List.map_nil]); first | rfl ) ?_
             with_reducible refine (calls_All.calls kj4 _ _ l0_0 _ _ l0_1 _ _ l0_2 _ _ y18 t21 t24 t27 t30 _ ?side1 ?side2 ?side3 ?side4 ?side5 ?side6 ?side7 ?side8 A23.out).mono ?_
             (case side1 => exact cM (Kd.C_below HR0_0.out HB.out))
             (case side2 => exact HC0_0.out)
             (case side3 => exact cM (Kd.C_below HR0_1.out HB.out))
             (case side4 => exact HC0_1.out)
             (case side5 => exact cM (Kd.C_below HR0_2.out HB.out))
             (case side6 => exact HC0_2.out)
             (case side7 => exact cM (Kd.R_reads' HO20.out).2.2)
             (case side8 => exact (Kd.R_reads' HO20.out).2.1)
             rintro e w39 ⟨v22, v25, v28, v31, rfl, ho0, ho1, ho2, ho3, hb⟩
             refine ⟨_, rfl, ?_⟩
             replace HO20 := Aside0.mk (Kd.R_below (rM HO20.out) hb)
             have HO23 := Aside0.mk (Kd.R_lower ho0 (below_size (by exact wM HB.out)))
             have HO26 := Aside0.mk (Kd.R_lower ho1 (below_size (by exact wM HB.out)))
             have HO29 := Aside0.mk (Kd.R_lower ho2 (below_size (by exact wM HB.out)))
             have HO32 := Aside0.mk (Kd.R_lower ho3 (below_size (by exact wM HB.out)))
             replace BK11 := Aside0.mk (blk_below (kM BK11.out) hb)
             replace BK33 := Aside0.mk (blk_below (kM BK33.out) hb)
             replace HB := Aside0.mk (below_step (by exact wM HB.out) hb)
             (try clear hb)
             (try clear hb2)
             (try clear hk)
             (try clear hi)
             (try clear ho0)
             (try clear ho1)
             (try clear ho2)
             (try clear ho3)
             refine hK.out _ _ ⟨(blk_cell BK11.out 0).trans rfl, (blk_cell BK11.out 1).trans rfl, (blk_cell BK11.out 2).trans rfl⟩ (fun hHeld => ?_)
             clear hK K
             refine norm_ (a' := ?_) ?_ ?_
             rotate_left
             ·show Act.put _ (some 45) _ = _
              simp only [Act.put, List.setIfInBounds_toArray, List.set_cons_zero, List.set_cons_succ, i64_w, i32_w]
              rfl
             refine pure_ (i := 6) (N := some 39) (v := ?_) (a' := ?_) #[true, true, true, true, true, true, true, false, false, true, false, false] rfl rfl (any_of HT_.out (by kernel_rfl)) (fun _ _ _ h => h) (Or.inl ⟨by rfl, ?_⟩) ?_ ?_
             rotate_left
             ·intro w'
              go_simp
              with_reducible rfl
             rotate_left
             ·simp only [Act.put, List.setIfInBounds_toArray, List.set_cons_zero, List.set_cons_succ, i64_w, i32_w]
              rfl
             refine pure_ (i := 7) (N := some 46) (v := ?_) (a' := ?_) #[true, true, true, true, true, true, true, true, false, true, false, false] rfl rfl (any_of HT_.out (by kernel_rfl)) (fun _ _ _ h => h) (Or.inl ⟨by rfl, ?_⟩) ?_ ?_
             rotate_left
             ·intro w'
              go_simp
              with_reducible rfl
             rotate_left
             ·simp only [Act.put, List.setIfInBounds_toArray, List.set_cons_zero, List.set_cons_succ, i64_w, i32_w]
              rfl
             refine pure_ (i := 8) (N := some 47) (v := ?_) (a' := ?_) #[true, true, true, true, true, true, true, true, true, true, false, false] rfl rfl (any_of HT_.out (by kernel_rfl)) (fun _ _ _ h => h) (Or.inl ⟨by rfl, ?_⟩) ?_ ?_
             rotate_left
             ·intro w'
              go_simp
              with_reducible rfl
             rotate_left
             ·simp only [Act.put, List.setIfInBounds_toArray, List.set_cons_zero, List.set_cons_succ, i64_w, i32_w]
              rfl
             exact norm_ (by simp only [putAll, Act.put, List.setIfInBounds_toArray, List.set_cons_zero, List.set_cons_succ]) (hCont (v16, .slice Ao38 y18.length co38, v22, v25, v28, v31, gb33) _ ⟨hHeld, (rM HO20.out), (rM HO23.out), (rM HO26.out), (rM HO29.out), (rM HO32.out), (kM BK11.out), (kM BK33.out), GW33.out, GE33.out, NB11_33.out, NB33_11.out, (by exact wM HB.out)⟩)
           rintro ⟨v16, v19, v22, v25, v28, v31, gb33⟩ w40 ⟨hS_, h0_, h1_, h2_, h3_, h4_, h5_, h6_, h7_, h8_, h9_, h10_, h11_⟩
           have n0_ : Aside0 (Kd.R k76 76 w40 w.heap.size (fun _ => True) v19 y18) := ⟨h0_⟩
           have n1_ : Aside0 (Kd.R k48 48 w40 w.heap.size (fun _ => True) v22 t21) := ⟨h1_⟩
           have n2_ : Aside0 (Kd.R (Kd.int .i64) 3 w40 w.heap.size (fun k_ => some k_ ≠ (v28 : Value).ownBlock) v25 t24) := ⟨h2_⟩
           have n3_ : Aside0 (Kd.R (Kd.int .i64) 3 w40 w.heap.size (fun k_ => some k_ ≠ (v25 : Value).ownBlock) v28 t27) := ⟨h3_⟩
           have n4_ : Aside0 (Kd.R k73 73 w40 w.heap.size (fun _ => True) v31 t30) := ⟨h4_⟩
           have n5_ : Aside0 (w40.heap[gb11]? = some (.cells #[.slice A0_0 l0_0.length c0_0, .slice A0_1 l0_1.length c0_1, .slice A0_2 l0_2.length c0_2] 38 (0, 0))) := ⟨h5_⟩
           have n6_ : Aside0 (w40.heap[gb33]? = some (.cells #[.slice none 0 0, .slice none 0 0, .slice none 0 0] 38 (0, 0))) := ⟨h6_⟩
           have n7_ : Aside0 (w.heap.size ≤ gb33) := ⟨h7_⟩
           have n8_ : Aside0 (w.heap.size ≤ gb33) := ⟨h8_⟩
           have n9_ : Aside0 (gb11 ≠ gb33) := ⟨h9_⟩
           have n10_ : Aside0 (gb33 ≠ gb11) := ⟨h10_⟩
           have n11_ : Aside0 (Below w.heap.size w w40) := ⟨h11_⟩
           clear BK11
           clear HB
           clear h0_ h1_ h2_ h3_ h4_ h5_ h6_ h7_ h8_ h9_ h10_ h11_
           have HO20 := n0_
           have HO23 := n1_
           have HO26 := n2_
           have HO29 := n3_
           have HO32 := n4_
           have BK11 := n5_
           have BK33 := n6_
           have GW33 := n7_
           have GE33 := n8_
           have NB11_33 := n9_
           have NB33_11 := n10_
           have HB := n11_
           clear n0_ n1_ n2_ n3_ n4_ n5_ n6_ n7_ n8_ n9_ n10_ n11_
           have hHeld : w40.cell? ⟨gb11, 0, none⟩ = some (.slice A0_0 l0_0.length c0_0) ∧ w40.cell? ⟨gb11, 1, none⟩ = some (.slice A0_1 l0_1.length c0_1) ∧ w40.cell? ⟨gb11, 2, none⟩ = some (.slice A0_2 l0_2.length c0_2) := hS_
           obtain ⟨Ao41, co41, eo41⟩ := Kd.R_slice HO23.out
           (subst eo41)
           obtain ⟨Ao43, co43, eo43⟩ := Kd.R_slice HO26.out
           (subst eo43)
           obtain ⟨Ao45, co45, eo45⟩ := Kd.R_slice HO29.out
           (subst eo45)
           refine norm_ (a' := ?_) ?_ ?_
           rotate_left
           ·simp only [putAll, Act.put, List.setIfInBounds_toArray, List.set_cons_zero, List.set_cons_succ]
            rfl
           refine one_ (i := 10) (N := none) #[true, true, true, true, true, true, true, true, true, true, true, false] rfl rfl (one_of HT_.out (by kernel_rfl)) (by decide) (fun K hK => ?_)
           have hs42 : w40.cell? ⟨gb33, 0, none⟩ = some (.slice none 0 0) := (blk_cell BK33.out 0).trans rfl
           have hfs42 := blk_frozen BK33.out 0
           have hns42_0 := NB11_33.out
           have hms42_0 := NB33_11.out
           have hs44 : w40.cell? ⟨gb33, 1, none⟩ = some (.slice none 0 0) := (blk_cell BK33.out 1).trans rfl
           have hfs44 := blk_frozen BK33.out 1
           have hns44_0 := NB11_33.out
           have hms44_0 := NB33_11.out
           have hs46 : w40.cell? ⟨gb33, 2, none⟩ = some (.slice none 0 0) := (blk_cell BK33.out 2).trans rfl
           have hfs46 := blk_frozen BK33.out 2
           have hns46_0 := NB11_33.out
           have hms46_0 := NB33_11.out
           refine skip_ (w1 := ?_) (by rfl) rfl ?_ ?_
           rotate_left
           ·go_simp
            rfl
           refine hK.out _ _ ⟨((cell_far (p := ⟨gb33, _, none⟩) NB11_33.out _).trans (((cell_far (p := ⟨gb33, _, none⟩) NB11_33.out _).trans (((cell_far (p := ⟨gb33, _, none⟩) NB11_33.out _).trans (hHeld.1)))))), ((cell_far (p := ⟨gb33, _, none⟩) NB11_33.out _).trans (((cell_far (p := ⟨gb33, _, none⟩) NB11_33.out _).trans (((cell_far (p := ⟨gb33, _, none⟩) NB11_33.out _).trans (hHeld.2.1)))))), ((cell_far (p := ⟨gb33, _, none⟩) NB11_33.out _).trans (((cell_far (p := ⟨gb33, _, none⟩) NB11_33.out _).trans (((cell_far (p := ⟨gb33, _, none⟩) NB11_33.out _).trans (hHeld.2.2))))))⟩ (fun hHeld => ?_)
           clear hK K
           refine pure_ (i := 11) (N := some 9) (v := ?_) (a' := ?_) #[true, true, true, true, true, true, true, true, true, true, true, true] rfl rfl (any_of HT_.out (by kernel_rfl)) (fun _ _ _ h => h) (Or.inl ⟨by rfl, ?_⟩) ?_ ?_
           rotate_left
           ·intro w'
            go_simp
            with_reducible rfl
           rotate_left
           ·simp only [Act.put, List.setIfInBounds_toArray, List.set_cons_zero, List.set_cons_succ, i64_w, i32_w]
            rfl
           refine done_ (done_of HT_.out (by kernel_rfl)) ?_
           have hnb47 := NB11_33.out
           have hnc47 := NB33_11.out
           obtain ⟨hcz48_0, hcz48_1, hcz48_2, hfz48_0, hfz48_1, hfz48_2⟩ := bk3 BK11.out
           try go_wp2_with (first | ((with_reducible refine gate_callee (f := 61) rfl ?_); refine goesL_ (some 51) rfl rfl Try.func61 (by kernel_rfl) rfl #[.agg #[.slice A0_0 l0_0.length c0_0, .slice A0_1 l0_1.length c0_1, .slice A0_2 l0_2.length c0_2], .slice A1 l1.length c1] rfl (by (try simp only [List.map_toArray, List.map_cons, List.map_nil]); first | rfl ) ?_; (with_reducible refine (calls_All.calls kj4 _ _ l0_0 _ _ l0_1 _ _ l0_2 _ _ l1 t34 t37 t40 t43 _ ?side1 ?side2 ?side3 ?side4 ?side5 ?side6 ?side7 ?side8 A24.out).mono ?_); (case side1 => exact Kd.C_below HR0_0.out (by exact wF HB.out GE33.out)); (case side2 => exact HC0_0.out); (case side3 => exact Kd.C_below HR0_1.out (by exact wF HB.out GE33.out)); (case side4 => exact HC0_1.out); (case side5 => exact Kd.C_below HR0_2.out (by exact wF HB.out GE33.out)); (case side6 => exact HC0_2.out); (case side7 => exact Kd.C_below HR1.out (by exact wF HB.out GE33.out)); (case side8 => exact HC1.out); rintro e w49 ⟨v35, v38, v41, v44, rfl, ho0, ho1, ho2, ho3, hb⟩; refine ⟨_, rfl, ?_⟩; replace HO20 := Aside0.mk (Kd.R_below (rF HO20.out BK33.out (by decide)) hb); have HO36 := Aside0.mk (Kd.R_lower (Kd.R_new' ho0 (Kd.R_lt (rF HO23.out BK33.out (by decide)))) (below_size (by exact wF HB.out GE33.out))); replace HO23 := Aside0.mk (Kd.R_elder' (rF HO23.out BK33.out (by decide)) (Kd.R_base ho0) hb); have HO39 := Aside0.mk (Kd.R_lower (Kd.R_new' (Kd.R_new' ho1 (Kd.R_lt (rF HO26.out BK33.out (by decide)))) (Kd.R_lt (rF HO29.out BK33.out (by decide)))) (below_size (by exact wF HB.out GE33.out))); have HO42 := Aside0.mk (Kd.R_lower (Kd.R_new' (Kd.R_new' ho2 (Kd.R_lt (rF HO26.out BK33.out (by decide)))) (Kd.R_lt (rF HO29.out BK33.out (by decide)))) (below_size (by exact wF HB.out GE33.out))); replace HO26 := Aside0.mk (Kd.R_mono (Kd.R_told (Kd.R_told (Kd.R_old (rF HO26.out BK33.out (by decide)) hb) (Kd.R_base ho1)) (Kd.R_base ho2)) (fun _ h_ => h_.1)); replace HO29 := Aside0.mk (Kd.R_mono (Kd.R_told (Kd.R_told (Kd.R_old (rF HO29.out BK33.out (by decide)) hb) (Kd.R_base ho1)) (Kd.R_base ho2)) (fun _ h_ => h_.1)); have HO45 := Aside0.mk (Kd.R_lower (Kd.R_new' ho3 (Kd.R_lt (rF HO32.out BK33.out (by decide)))) (below_size (by exact wF HB.out GE33.out))); replace HO32 := Aside0.mk (Kd.R_elder' (rF HO32.out BK33.out (by decide)) (Kd.R_base ho3) hb); replace BK11 := Aside0.mk (blk_below (kF BK11.out NB11_33.out) hb); replace BK33 := Aside0.mk (blk_below (g := gb33) (o := .cells #[.slice Ao41 t21.length co41, .slice Ao43 t24.length co43, .slice Ao45 t27.length co45] 38 (0, 0)) (by (with_reducible repeat (first | refine blk_drewN ?_ _ | refine blk_drew ?_ | refine blk_alloc ?_ _)); exact kP1 BK33.out) hb); replace HB := Aside0.mk (below_step (by exact wF HB.out GE33.out) hb); (try clear hb); (try clear ho0); (try clear ho1); (try clear ho2); (try clear ho3)) | ((with_reducible refine gate_dst (N := 10) rfl ?_); (try (refine gate_guard (by rfl) ?_; dsimp only)); refine box_event ?hg (N := 10) ?hd (cs := #[.slice none 0 0, .slice none 0 0, .slice none 0 0]) (t := 38) ?hr ?_; (case hd => rfl); (case hg => rfl); (case hr => first | (go_simp; done) ); intro gb46 hg w50 hbox hb; replace HO20 := Aside0.mk (Kd.R_below (rM HO20.out) hb); replace HO23 := Aside0.mk (Kd.R_below (rM HO23.out) hb); replace HO26 := Aside0.mk (Kd.R_below (rM HO26.out) hb); replace HO29 := Aside0.mk (Kd.R_below (rM HO29.out) hb); replace HO32 := Aside0.mk (Kd.R_below (rM HO32.out) hb); replace HO36 := Aside0.mk (Kd.R_below (rM HO36.out) hb); replace HO39 := Aside0.mk (Kd.R_below (rM HO39.out) hb); replace HO42 := Aside0.mk (Kd.R_below (rM HO42.out) hb); replace HO45 := Aside0.mk (Kd.R_below (rM HO45.out) hb); have BK46 := Aside0.mk (hbox); have GW46 := Aside0.mk ((by rw [hg]; exact (below_size (by exact wM HB.out)) : w.heap.size ≤ gb46)); have GE46 := Aside0.mk ((by rw [hg]; exact (below_size (by exact wM HB.out)) : w.heap.size ≤ gb46)); replace HB := Aside0.mk (below_step (by exact wM HB.out) hb); have NB11_46 := Aside0.mk ((by rw [hg]; exact Nat.ne_of_lt (blk_lt (kM BK11.out)) : gb11 ≠ gb46)); have NB46_11 := Aside0.mk ((by rw [hg]; exact Nat.ne_of_gt (blk_lt (kM BK11.out)) : gb46 ≠ gb11)); replace BK11 := Aside0.mk (blk_below (kM BK11.out) hb); have NB33_46 := Aside0.mk ((by rw [hg]; exact Nat.ne_of_lt (blk_lt (kM BK33.out)) : gb33 ≠ gb46)); have NB46_33 := Aside0.mk ((by rw [hg]; exact Nat.ne_of_gt (blk_lt (kM BK33.out)) : gb46 ≠ gb33)); replace BK33 := Aside0.mk (blk_below (kM BK33.out) hb); clear hb hbox hg; obtain ⟨Ao51, co51, eo51⟩ := Kd.R_slice HO36.out; subst eo51; have hnb52 := NB46_11.out; have hnc52 := NB11_46.out; have hnb53 := NB46_33.out; have hnc53 := NB33_46.out; obtain ⟨hcz54_0, hcz54_1, hcz54_2, hfz54_0, hfz54_1, hfz54_2⟩ := bk3 BK46.out; obtain ⟨Ao55, co55, eo55⟩ := Kd.R_slice HO39.out; subst eo55; obtain ⟨Ao56, co56, eo56⟩ := Kd.R_slice HO42.out; subst eo56) | ((with_reducible refine gate_callee (f := 61) rfl ?_); refine goesL_ (some 57) rfl rfl Try.func61 (by kernel_rfl) rfl #[.agg #[.slice Ao51 t34.length co51, .slice Ao55 t37.length co55, .slice Ao56 t40.length co56], .slice A2 l2.length c2] rfl (by (try simp only [List.map_toArray, List.map_cons, List.map_nil]); first | rfl ) ?_; (with_reducible refine (calls_All.calls kj4 _ _ t34 _ _ t37 _ _ t40 _ _ l2 t47 t50 t53 t56 _ ?side1 ?side2 ?side3 ?side4 ?side5 ?side6 ?side7 ?side8 A25.out).mono ?_); (case side1 => exact rCF HO36.out BK46.out (by decide)); (case side2 => exact (Kd.R_reads' HO36.out).2.1); (case side3 => exact rCF HO39.out BK46.out (by decide)); (case side4 => exact (Kd.R_reads' HO39.out).2.1); (case side5 => exact rCF HO42.out BK46.out (by decide)); (case side6 => exact (Kd.R_reads' HO42.out).2.1); (case side7 => exact Kd.C_below HR2.out (by exact wF HB.out GE46.out)); (case side8 => exact HC2.out); rintro e w57 ⟨v48, v51, v54, v57, rfl, ho0, ho1, ho2, ho3, hb⟩; refine ⟨_, rfl, ?_⟩; replace HO20 := Aside0.mk (Kd.R_below (rF HO20.out BK46.out (by decide)) hb); have HO49 := Aside0.mk (Kd.R_lower (Kd.R_new' (Kd.R_new' ho0 (Kd.R_lt (rF HO23.out BK46.out (by decide)))) (Kd.R_lt (rF HO36.out BK46.out (by decide)))) (below_size (by exact wF HB.out GE46.out))); replace HO23 := Aside0.mk (Kd.R_elder' (rF HO23.out BK46.out (by decide)) (Kd.R_base ho0) hb); replace HO36 := Aside0.mk (Kd.R_elder' (rF HO36.out BK46.out (by decide)) (Kd.R_base ho0) hb); have HO52 := Aside0.mk (Kd.R_lower (Kd.R_new' (Kd.R_new' (Kd.R_new' (Kd.R_new' ho1 (Kd.R_lt (rF HO26.out BK46.out (by decide)))) (Kd.R_lt (rF HO29.out BK46.out (by decide)))) (Kd.R_lt (rF HO39.out BK46.out (by decide)))) (Kd.R_lt (rF HO42.out BK46.out (by decide)))) (below_size (by exact wF HB.out GE46.out))); have HO55 := Aside0.mk (Kd.R_lower (Kd.R_new' (Kd.R_new' (Kd.R_new' (Kd.R_new' ho2 (Kd.R_lt (rF HO26.out BK46.out (by decide)))) (Kd.R_lt (rF HO29.out BK46.out (by decide)))) (Kd.R_lt (rF HO39.out BK46.out (by decide)))) (Kd.R_lt (rF HO42.out BK46.out (by decide)))) (below_size (by exact wF HB.out GE46.out))); replace HO26 := Aside0.mk (Kd.R_mono (Kd.R_told (Kd.R_told (Kd.R_old (rF HO26.out BK46.out (by decide)) hb) (Kd.R_base ho1)) (Kd.R_base ho2)) (fun _ h_ => h_.1)); replace HO29 := Aside0.mk (Kd.R_mono (Kd.R_told (Kd.R_told (Kd.R_old (rF HO29.out BK46.out (by decide)) hb) (Kd.R_base ho1)) (Kd.R_base ho2)) (fun _ h_ => h_.1)); replace HO39 := Aside0.mk (Kd.R_mono (Kd.R_told (Kd.R_told (Kd.R_old (rF HO39.out BK46.out (by decide)) hb) (Kd.R_base ho1)) (Kd.R_base ho2)) (fun _ h_ => h_.1)); replace HO42 := Aside0.mk (Kd.R_mono (Kd.R_told (Kd.R_told (Kd.R_old (rF HO42.out BK46.out (by decide)) hb) (Kd.R_base ho1)) (Kd.R_base ho2)) (fun _ h_ => h_.1)); have HO58 := Aside0.mk (Kd.R_lower (Kd.R_new' (Kd.R_new' ho3 (Kd.R_lt (rF HO32.out BK46.out (by decide)))) (Kd.R_lt (rF HO45.out BK46.out (by decide)))) (below_size (by exact wF HB.out GE46.out))); replace HO32 := Aside0.mk (Kd.R_elder' (rF HO32.out BK46.out (by decide)) (Kd.R_base ho3) hb); replace HO45 := Aside0.mk (Kd.R_elder' (rF HO45.out BK46.out (by decide)) (Kd.R_base ho3) hb); replace BK11 := Aside0.mk (blk_below (kF BK11.out NB11_46.out) hb); replace BK33 := Aside0.mk (blk_below (kF BK33.out NB33_46.out) hb); replace BK46 := Aside0.mk (blk_below (g := gb46) (o := .cells #[.slice Ao51 t34.length co51, .slice Ao55 t37.length co55, .slice Ao56 t40.length co56] 38 (0, 0)) (by (with_reducible repeat (first | refine blk_drewN ?_ _ | refine blk_drew ?_ | refine blk_alloc ?_ _)); exact kP1 BK46.out) hb); replace HB := Aside0.mk (below_step (by exact wF HB.out GE46.out) hb); (try clear hb); (try clear ho0); (try clear ho1); (try clear ho2); (try clear ho3)) | ((with_reducible refine gate_dst (N := 12) rfl ?_); (try (refine gate_guard (by rfl) ?_; dsimp only)); refine box_event ?hg (N := 12) ?hd (cs := #[.slice none 0 0, .slice none 0 0, .slice none 0 0]) (t := 38) ?hr ?_; (case hd => rfl); (case hg => rfl); (case hr => first | (go_simp; done) ); intro gb59 hg w58 hbox hb; replace HO20 := Aside0.mk (Kd.R_below (rM HO20.out) hb); replace HO23 := Aside0.mk (Kd.R_below (rM HO23.out) hb); replace HO26 := Aside0.mk (Kd.R_below (rM HO26.out) hb); replace HO29 := Aside0.mk (Kd.R_below (rM HO29.out) hb); replace HO32 := Aside0.mk (Kd.R_below (rM HO32.out) hb); replace HO36 := Aside0.mk (Kd.R_below (rM HO36.out) hb); replace HO39 := Aside0.mk (Kd.R_below (rM HO39.out) hb); replace HO42 := Aside0.mk (Kd.R_below (rM HO42.out) hb); replace HO45 := Aside0.mk (Kd.R_below (rM HO45.out) hb); replace HO49 := Aside0.mk (Kd.R_below (rM HO49.out) hb); replace HO52 := Aside0.mk (Kd.R_below (rM HO52.out) hb); replace HO55 := Aside0.mk (Kd.R_below (rM HO55.out) hb); replace HO58 := Aside0.mk (Kd.R_below (rM HO58.out) hb); have BK59 := Aside0.mk (hbox); have GW59 := Aside0.mk ((by rw [hg]; exact (below_size (by exact wM HB.out)) : w.heap.size ≤ gb59)); have GE59 := Aside0.mk ((by rw [hg]; exact (below_size (by exact wM HB.out)) : w.heap.size ≤ gb59)); replace HB := Aside0.mk (below_step (by exact wM HB.out) hb); have NB11_59 := Aside0.mk ((by rw [hg]; exact Nat.ne_of_lt (blk_lt (kM BK11.out)) : gb11 ≠ gb59)); have NB59_11 := Aside0.mk ((by rw [hg]; exact Nat.ne_of_gt (blk_lt (kM BK11.out)) : gb59 ≠ gb11)); replace BK11 := Aside0.mk (blk_below (kM BK11.out) hb); have NB33_59 := Aside0.mk ((by rw [hg]; exact Nat.ne_of_lt (blk_lt (kM BK33.out)) : gb33 ≠ gb59)); have NB59_33 := Aside0.mk ((by rw [hg]; exact Nat.ne_of_gt (blk_lt (kM BK33.out)) : gb59 ≠ gb33)); replace BK33 := Aside0.mk (blk_below (kM BK33.out) hb); have NB46_59 := Aside0.mk ((by rw [hg]; exact Nat.ne_of_lt (blk_lt (kM BK46.out)) : gb46 ≠ gb59)); have NB59_46 := Aside0.mk ((by rw [hg]; exact Nat.ne_of_gt (blk_lt (kM BK46.out)) : gb59 ≠ gb46)); replace BK46 := Aside0.mk (blk_below (kM BK46.out) hb); clear hb hbox hg; obtain ⟨Ao59, co59, eo59⟩ := Kd.R_slice HO49.out; subst eo59; have hnb60 := NB59_11.out; have hnc60 := NB11_59.out; have hnb61 := NB59_33.out; have hnc61 := NB33_59.out; have hnb62 := NB59_46.out; have hnc62 := NB46_59.out; obtain ⟨hcz63_0, hcz63_1, hcz63_2, hfz63_0, hfz63_1, hfz63_2⟩ := bk3 BK59.out; obtain ⟨Ao64, co64, eo64⟩ := Kd.R_slice HO52.out; subst eo64; obtain ⟨Ao65, co65, eo65⟩ := Kd.R_slice HO55.out; subst eo65; obtain ⟨Ao67, co67, eo67⟩ := Kd.R_slice HO45.out; subst eo67) | ((with_reducible refine gate_builtin (b := .append) (xs := #[.const (.slice none 0 0), .tmp 61]) rfl ?_); (try (refine gate_guard (by rfl) ?_; dsimp only)); at_builtin; refine Kd.R_append_rows k73 (w0 := w) w.heap.size rfl (.const (.slice none 0 0)) (.tmp 61) 71 73 (.agg #[(.int .i64 0), (.int .i64 0)]) 16 rfl Try.underlying71 info73 rfl (by decide) (by omega) (.slice none 0 0) ([] : List (S73)) t43 _ _ _ (fun k_ => some k_ ≠ (v31 : Value).ownBlock ∧ some k_ ≠ (.slice Ao67 t43.length co67 : Value).ownBlock ∧ some k_ ≠ (v57 : Value).ownBlock) (fun _ => False) rfl rfl ?aO ?aR (fun _ _ h => h) (fun _ h => h.elim) ?aF ?aB ?aS ?aL ?_; (case aR => exact rCF HO45.out BK59.out (by decide)); (case aB => exact (by exact wF HB.out GE59.out)); (case aF => exact (fun k_ hk => ⟨Kd.fresh' (Kd.R_lt (rF HO32.out BK59.out (by decide))) k_ hk, Kd.fresh' (Kd.R_lt (rF HO45.out BK59.out (by decide))) k_ hk, Kd.fresh' (Kd.R_lt (rF HO58.out BK59.out (by decide))) k_ hk⟩)); (case aO => exact ((Kd.R_nil _ _ _ _ (fun k_ => some k_ ≠ (v31 : Value).ownBlock ∧ some k_ ≠ (.slice Ao67 t43.length co67 : Value).ownBlock ∧ some k_ ≠ (v57 : Value).ownBlock)))); (case aS => exact (below_size (by exact wF HB.out GE59.out))); (case aL => have := LMc26.out; omega); intro v61 w66 ho hb hg hat; rw [← Ny60.out] at ho; replace BK11 := Aside0.mk (blk_grown (kF BK11.out NB11_59.out) hg (by simp [Value.ownBlock])); replace HO20 := Aside0.mk (Kd.R_grown (rF HO20.out BK59.out (by decide)) hg (fun _ _ => by simp [Value.ownBlock])); replace HO23 := Aside0.mk (Kd.R_grown (rF HO23.out BK59.out (by decide)) hg (fun _ _ => by simp [Value.ownBlock])); replace HO26 := Aside0.mk (Kd.R_grown (rF HO26.out BK59.out (by decide)) hg (fun _ _ => by simp [Value.ownBlock])); replace HO29 := Aside0.mk (Kd.R_grown (rF HO29.out BK59.out (by decide)) hg (fun _ _ => by simp [Value.ownBlock])); replace HO32 := Aside0.mk (Kd.R_after (Kd.R_apart_nil (rF HO32.out BK59.out (by decide))) hg hat); replace BK33 := Aside0.mk (blk_grown (kF BK33.out NB33_59.out) hg (by simp [Value.ownBlock])); replace HO36 := Aside0.mk (Kd.R_grown (rF HO36.out BK59.out (by decide)) hg (fun _ _ => by simp [Value.ownBlock])); replace HO39 := Aside0.mk (Kd.R_grown (rF HO39.out BK59.out (by decide)) hg (fun _ _ => by simp [Value.ownBlock])); replace HO42 := Aside0.mk (Kd.R_grown (rF HO42.out BK59.out (by decide)) hg (fun _ _ => by simp [Value.ownBlock])); replace HO45 := Aside0.mk (Kd.R_after (Kd.R_apart_nil (rF HO45.out BK59.out (by decide))) hg hat); replace BK46 := Aside0.mk (blk_grown (kF BK46.out NB46_59.out) hg (by simp [Value.ownBlock])); replace HO49 := Aside0.mk (Kd.R_grown (rF HO49.out BK59.out (by decide)) hg (fun _ _ => by simp [Value.ownBlock])); replace HO52 := Aside0.mk (Kd.R_grown (rF HO52.out BK59.out (by decide)) hg (fun _ _ => by simp [Value.ownBlock])); replace HO55 := Aside0.mk (Kd.R_grown (rF HO55.out BK59.out (by decide)) hg (fun _ _ => by simp [Value.ownBlock])); replace HO58 := Aside0.mk (Kd.R_after (Kd.R_apart_nil (rF HO58.out BK59.out (by decide))) hg hat); replace BK59 := Aside0.mk (blk_grown (g := gb59) (o := .cells #[.slice Ao59 t47.length co59, .slice Ao64 t50.length co64, .slice Ao65 t53.length co65] 38 (0, 0)) (by (with_reducible repeat (first | refine blk_drewN ?_ _ | refine blk_drew ?_ | refine blk_alloc ?_ _)); exact kP1 BK59.out) hg (by simp [Value.ownBlock])); replace HB := Aside0.mk (hb); have HO62 := Aside0.mk (ho); clear ho hb hg hat; obtain ⟨Ao69, co69, eo69⟩ := Kd.R_slice HO58.out; subst eo69) | ((with_reducible refine gate_builtin (b := .append) (xs := #[.tmp 62, .tmp 63]) rfl ?_); (try (refine gate_guard (by rfl) ?_; dsimp only)); at_builtin; refine Kd.R_append_rows k73 (w0 := w) w.heap.size rfl (.tmp 62) (.tmp 63) 71 73 (.agg #[(.int .i64 0), (.int .i64 0)]) 16 rfl Try.underlying71 info73 rfl (by decide) (by omega) v61 y60 t56 _ _ _ (fun k_ => some k_ ≠ (v31 : Value).ownBlock ∧ some k_ ≠ (.slice Ao67 t43.length co67 : Value).ownBlock ∧ some k_ ≠ (.slice Ao69 t56.length co69 : Value).ownBlock) (fun _ => False) rfl rfl ?aO ?aR (fun _ _ h => h) (fun _ h => h.elim) ?aF ?aB ?aS ?aL ?_; (case aR => exact cM (Kd.R_reads' HO58.out).2.2); (case aB => exact (by exact wM HB.out)); (case aF => exact (fun k_ hk => ⟨Kd.fresh' (Kd.R_lt (rM HO32.out)) k_ hk, Kd.fresh' (Kd.R_lt (rM HO45.out)) k_ hk, Kd.fresh' (Kd.R_lt (rM HO58.out)) k_ hk⟩)); (case aO => exact (rM HO62.out)); (case aS => exact (below_size (by exact wM HB.out))); (case aL => have := LMc27.out; omega); intro v64 w68 ho hb hg hat; rw [← Ny63.out] at ho; replace BK11 := Aside0.mk (blk_grown (kM BK11.out) hg (Kd.R_ne HO62.out BK11.out (by decide))); replace HO20 := Aside0.mk (Kd.R_over' (rM HO20.out) (Kd.R_typed (rM HO62.out)) (by decide) hg); replace HO23 := Aside0.mk (Kd.R_over' (rM HO23.out) (Kd.R_typed (rM HO62.out)) (by decide) hg); replace HO26 := Aside0.mk (Kd.R_over' (rM HO26.out) (Kd.R_typed (rM HO62.out)) (by decide) hg); replace HO29 := Aside0.mk (Kd.R_over' (rM HO29.out) (Kd.R_typed (rM HO62.out)) (by decide) hg); replace HO32 := Aside0.mk (Kd.R_after (ok := (fun k_ => some k_ ≠ (.slice Ao67 t43.length co67 : Value).ownBlock ∧ some k_ ≠ (.slice Ao69 t56.length co69 : Value).ownBlock)) (by (with_reducible repeat (first | apply Kd.R_alloc | apply Kd.R_drewN | apply Kd.R_drew)); exact Kd.R_mono HO32.out (fun _ hk => ⟨⟨hk.1.1.2, hk.1.2⟩, hk.2⟩)) hg hat); replace BK33 := Aside0.mk (blk_grown (kM BK33.out) hg (Kd.R_ne HO62.out BK33.out (by decide))); replace HO36 := Aside0.mk (Kd.R_over' (rM HO36.out) (Kd.R_typed (rM HO62.out)) (by decide) hg); replace HO39 := Aside0.mk (Kd.R_over' (rM HO39.out) (Kd.R_typed (rM HO62.out)) (by decide) hg); replace HO42 := Aside0.mk (Kd.R_over' (rM HO42.out) (Kd.R_typed (rM HO62.out)) (by decide) hg); replace HO45 := Aside0.mk (Kd.R_after (ok := (fun k_ => some k_ ≠ (v31 : Value).ownBlock ∧ some k_ ≠ (.slice Ao69 t56.length co69 : Value).ownBlock)) (by (with_reducible repeat (first | apply Kd.R_alloc | apply Kd.R_drewN | apply Kd.R_drew)); exact Kd.R_mono HO45.out (fun _ hk => ⟨⟨hk.1.1.2, hk.1.2⟩, hk.2⟩)) hg hat); replace BK46 := Aside0.mk (blk_grown (kM BK46.out) hg (Kd.R_ne HO62.out BK46.out (by decide))); replace HO49 := Aside0.mk (Kd.R_over' (rM HO49.out) (Kd.R_typed (rM HO62.out)) (by decide) hg); replace HO52 := Aside0.mk (Kd.R_over' (rM HO52.out) (Kd.R_typed (rM HO62.out)) (by decide) hg); replace HO55 := Aside0.mk (Kd.R_over' (rM HO55.out) (Kd.R_typed (rM HO62.out)) (by decide) hg); replace HO58 := Aside0.mk (Kd.R_after (ok := (fun k_ => some k_ ≠ (v31 : Value).ownBlock ∧ some k_ ≠ (.slice Ao67 t43.length co67 : Value).ownBlock)) (by (with_reducible repeat (first | apply Kd.R_alloc | apply Kd.R_drewN | apply Kd.R_drew)); exact Kd.R_mono HO58.out (fun _ hk => ⟨⟨hk.1.1.2, hk.1.2⟩, hk.2⟩)) hg hat); replace BK59 := Aside0.mk (blk_grown (kM BK59.out) hg (Kd.R_ne HO62.out BK59.out (by decide))); replace HB := Aside0.mk (hb); have HO65 := Aside0.mk (ho); clear HO62; clear ho hb hg hat; obtain ⟨Ao70, co70, eo70⟩ := Kd.R_slice HO32.out; subst eo70; obtain ⟨Ao71, co71, eo71⟩ := Kd.R_slice HO65.out; subst eo71) | ((with_reducible refine gate_callee (f := 62) rfl ?_); refine goesL_ (some 65) rfl rfl Try.func62 (by kernel_rfl) rfl #[.slice Ao70 t30.length co70, .slice Ao71 y63.length co71] rfl (by (try simp only [List.map_toArray, List.map_cons, List.map_nil]); first | rfl ) ?_; (with_reducible refine (roadbookref20_Backs.calls kj4 _ _ t30 _ _ y63 true _ ?side1 ?side2 ?side3 ?side4 A28.out).mono ?_); (case side1 => exact cM (Kd.R_reads' HO32.out).2.2); (case side2 => exact (Kd.R_reads' HO32.out).2.1); (case side3 => exact cM (Kd.R_reads' HO65.out).2.2); (case side4 => exact (Kd.R_reads' HO65.out).2.1); rintro e w' ⟨rfl, ⟨nd, rfl⟩⟩; refine ⟨_, rfl, ?_⟩; obtain ⟨hcz72_0, hcz72_1, hcz72_2, hfz72_0, hfz72_1, hfz72_2⟩ := bk3 BK33.out; obtain ⟨hcz73_0, hcz73_1, hcz73_2, hfz73_0, hfz73_1, hfz73_2⟩ := bk3 BK59.out) | (go_at_call 46; (with_reducible refine (memo_Same.calls kj4 _ _ t21 _ _ t24 _ _ t27 _ _ t47 _ _ t50 _ _ t53 true _ ?side1 ?side2 ?side3 ?side4 ?side5 ?side6 ?side7 ?side8 ?side9 ?side10 ?side11 ?side12 A30.out).mono ?_); (case side1 => exact cM (Kd.R_reads' HO23.out).2.2); (case side2 => exact (Kd.R_reads' HO23.out).2.1); (case side3 => exact cM (Kd.R_reads' HO26.out).2.2); (case side4 => exact (Kd.R_reads' HO26.out).2.1); (case side5 => exact cM (Kd.R_reads' HO29.out).2.2); (case side6 => exact (Kd.R_reads' HO29.out).2.1); (case side7 => exact cM (Kd.R_reads' HO49.out).2.2); (case side8 => exact (Kd.R_reads' HO49.out).2.1); (case side9 => exact cM (Kd.R_reads' HO52.out).2.2); (case side10 => exact (Kd.R_reads' HO52.out).2.1); (case side11 => exact cM (Kd.R_reads' HO55.out).2.2); (case side12 => exact (Kd.R_reads' HO55.out).2.1); rintro e w74 ⟨rfl, hb⟩; replace HO20 := Aside0.mk (Kd.R_below (rM HO20.out) hb); replace HO23 := Aside0.mk (Kd.R_below (rM HO23.out) hb); replace HO26 := Aside0.mk (Kd.R_below (rM HO26.out) hb); replace HO29 := Aside0.mk (Kd.R_below (rM HO29.out) hb); replace HO32 := Aside0.mk (Kd.R_below (rM HO32.out) hb); replace HO36 := Aside0.mk (Kd.R_below (rM HO36.out) hb); replace HO39 := Aside0.mk (Kd.R_below (rM HO39.out) hb); replace HO42 := Aside0.mk (Kd.R_below (rM HO42.out) hb); replace HO45 := Aside0.mk (Kd.R_below (rM HO45.out) hb); replace HO49 := Aside0.mk (Kd.R_below (rM HO49.out) hb); replace HO52 := Aside0.mk (Kd.R_below (rM HO52.out) hb); replace HO55 := Aside0.mk (Kd.R_below (rM HO55.out) hb); replace HO58 := Aside0.mk (Kd.R_below (rM HO58.out) hb); replace HO65 := Aside0.mk (Kd.R_below (rM HO65.out) hb); replace BK11 := Aside0.mk (blk_below (kM BK11.out) hb); replace BK33 := Aside0.mk (blk_below (kM BK33.out) hb); replace BK46 := Aside0.mk (blk_below (kM BK46.out) hb); replace BK59 := Aside0.mk (blk_below (kM BK59.out) hb); replace HB := Aside0.mk (below_step (by exact wM HB.out) hb); (try clear hb); obtain ⟨hcz75_0, hcz75_1, hcz75_2, hfz75_0, hfz75_1, hfz75_2⟩ := bk3 BK33.out) | (go_at_call 41; (with_reducible refine (memo_May.calls _ _ t21 _ _ t24 _ _ t27 true _ ?side1 ?side2 ?side3 ?side4 ?side5 ?side6 A32.out).mono ?_); (case side1 => exact cM (Kd.R_reads' HO23.out).2.2); (case side2 => exact (Kd.R_reads' HO23.out).2.1); (case side3 => exact cM (Kd.R_reads' HO26.out).2.2); (case side4 => exact (Kd.R_reads' HO26.out).2.1); (case side5 => exact cM (Kd.R_reads' HO29.out).2.2); (case side6 => exact (Kd.R_reads' HO29.out).2.1); rintro e w76 ⟨rfl, hb⟩; replace HO20 := Aside0.mk (Kd.R_below (rM HO20.out) hb); replace HO23 := Aside0.mk (Kd.R_below (rM HO23.out) hb); replace HO26 := Aside0.mk (Kd.R_below (rM HO26.out) hb); replace HO29 := Aside0.mk (Kd.R_below (rM HO29.out) hb); replace HO32 := Aside0.mk (Kd.R_below (rM HO32.out) hb); replace HO36 := Aside0.mk (Kd.R_below (rM HO36.out) hb); replace HO39 := Aside0.mk (Kd.R_below (rM HO39.out) hb); replace HO42 := Aside0.mk (Kd.R_below (rM HO42.out) hb); replace HO45 := Aside0.mk (Kd.R_below (rM HO45.out) hb); replace HO49 := Aside0.mk (Kd.R_below (rM HO49.out) hb); replace HO52 := Aside0.mk (Kd.R_below (rM HO52.out) hb); replace HO55 := Aside0.mk (Kd.R_below (rM HO55.out) hb); replace HO58 := Aside0.mk (Kd.R_below (rM HO58.out) hb); replace HO65 := Aside0.mk (Kd.R_below (rM HO65.out) hb); replace BK11 := Aside0.mk (blk_below (kM BK11.out) hb); replace BK33 := Aside0.mk (blk_below (kM BK33.out) hb); replace BK46 := Aside0.mk (blk_below (kM BK46.out) hb); replace BK59 := Aside0.mk (blk_below (kM BK59.out) hb); replace HB := Aside0.mk (below_step (by exact wM HB.out) hb); (try clear hb); ))
           go_ret
           exact ⟨by rfl, by repeat ((with_reducible first | exact HB.out ))⟩
          ·replace c33 := Bool.eq_false_iff.mpr c33
           subst c33
           rw [if_neg (show ¬ (false = true) by decide)] at H
           exact absurd (HRT.out.symm.trans (Option.some.inj H).symm) (by decide)
         ·replace c31 := Bool.eq_false_iff.mpr c31
          subst c31
          rw [if_neg (show ¬ (false = true) by decide)] at H
          exact absurd (HRT.out.symm.trans (Option.some.inj H).symm) (by decide)
        ·replace c29 := Bool.eq_false_iff.mpr c29
         subst c29
         rw [if_neg (show ¬ (false = true) by decide)] at H
         exact absurd (HRT.out.symm.trans (Option.some.inj H).symm) (by decide)
       ·rw [if_neg c27] at H
        exact absurd H (by simp)
      ·rw [if_neg c26] at H
       exact absurd H (by simp)
     ·rw [if_neg c22] at H
      exact absurd H (by simp)
    ·rw [if_neg c21] at H
     exact absurd H (by simp)

end Go.Proofs.Ytkidnomkfdnciaa.All
