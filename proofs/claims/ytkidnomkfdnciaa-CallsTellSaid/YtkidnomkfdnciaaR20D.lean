/- Functions of the program as plain Lean functions, and proofs that the calls do what these say; written for this claim by a program of the session (wip/tools/mkprint.py), checked by Lean. -/
import Derived.Test.YtkidnomkfdnciaaSets2
import Derived.Test.YtkidnomkfdnciaaCalls2
import Derived.Test.YtkidnomkfdnciaaR20C
namespace Go.Proofs.Ytkidnomkfdnciaa.All
open Go.RowKit Go.Proofs.YtkidnomkfdnciaaW.PrintWords Go.Proofs.YtkidnomkfdnciaaW.PrintLast Go.Proofs.YtkidnomkfdnciaaW.PrintMore
attribute [local go_sem] max2_int min2_int max_two min_two max_three min_three max_four min_four
set_option linter.unusedVariables false
set_option linter.unusedSimpArgs false
mutual
def roadbookref20_picked.j0 : Nat → List (List (S76)) → List Int → List Int → Int → Bool → Option (Int)
 | 0, _, _, _, _, _ => none
 | k + 1, x0, x1, x2, x3, x24 => if x24 = true then (some (-1)) else (if 0 ≤ x3 then (if x3 < (x2.length : Int) then (if (x0.length : Int) = 0 then (none) else (if 0 ≤ (Int.tmod (rd x2 x3) (x0.length : Int)) then (if (Int.tmod (rd x2 x3) (x0.length : Int)) < (x1.length : Int) then (if (Int.tmod (rd x2 x3) (x0.length : Int)) < (x0.length : Int) then (if (rd x1 (Int.tmod (rd x2 x3) (x0.length : Int))) ≥ (wrap64 (3 * ((rd_L5 x0 (Int.tmod (rd x2 x3) (x0.length : Int))).length : Int))) then (some (-1)) else (some (Int.tmod (rd x2 x3) (x0.length : Int)))) else (none)) else (none)) else (none))) else (none)) else (none))
def roadbookref20_picked.l0 : Nat → List (List (S76)) → List Int → Int → Option (Int)
 | 0, _, _, _ => none
 | k + 1, x0, x1, x10 => if x10 < (x0.length : Int) then (if 0 ≤ x10 then (if x10 < (x1.length : Int) then (if (rd x1 x10) < (wrap64 (3 * ((rd_L5 x0 x10).length : Int))) then (some x10) else (roadbookref20_picked.l0 k x0 x1 (wrap64 (x10 + 1)))) else (none)) else (none)) else (some (-1))
end
def roadbookref20_picked.f (k : Nat) (l0 : List (List (S76))) (l1 : List Int) (l2 : List Int) (a3 : Int) : Option (Int) := if a3 < (l2.length : Int) then (if 0 ≤ a3 then (if (rd l2 a3) < 0 then (roadbookref20_picked.j0 k l0 l1 l2 a3 true) else (roadbookref20_picked.j0 k l0 l1 l2 a3 ((l0.length : Int) == 0))) else (none)) else (roadbookref20_picked.l0 k l0 l1 0)
set_option maxHeartbeats 8000000 in
set_option maxRecDepth 100000 in
theorem roadbookref20_picked.calls (k : Nat) (A0 : Option Addr) (c0 : Nat) (l0 : List (List (S76))) (A1 : Option Addr) (c1 : Nat) (l1 : List Int) (A2 : Option Addr) (c2 : Nat) (l2 : List Int) (a3 : Int) (r : Int) (w : World) (hr0 : Kd.C (Kd.slice 76 k76) w A0 l0.length l0) (hc0 : l0.length ≤ c0) (hr1 : Kd.C (Kd.int .i64) w A1 l1.length l1) (hc1 : l1.length ≤ c1) (hr2 : Kd.C (Kd.int .i64) w A2 l2.length l2) (hc2 : l2.length ≤ c2) (h : roadbookref20_picked.f k l0 l1 l2 a3 = some r) :
  Calls Try.prog 90 #[.slice A0 l0.length c0, .slice A1 l1.length c1, .slice A2 l2.length c2, .int .i64 a3] w fun e w' => e = .returned (.int .i64 r) ∧ Drawn0 w w' := by
 have HR0 := Aside0.mk hr0
 have HC0 := Aside0.mk hc0
 clear hr0 hc0
 have HR1 := Aside0.mk hr1
 have HC1 := Aside0.mk hc1
 clear hr1 hc1
 have HR2 := Aside0.mk hr2
 have HC2 := Aside0.mk hc2
 clear hr2 hc2
 have H : (if a3 < (l2.length : Int) then (if 0 ≤ a3 then (if (rd l2 a3) < 0 then (roadbookref20_picked.j0 k l0 l1 l2 a3 true) else (roadbookref20_picked.j0 k l0 l1 l2 a3 ((l0.length : Int) == 0))) else (none)) else (roadbookref20_picked.l0 k l0 l1 0)) = some r := h
 clear h
 by_cases c5 : a3 < (l2.length : Int)
 ·rw [if_pos c5] at H
  have c5b0 : decide (a3 < (l2.length : Int)) = true := decide_eq_true c5
  clear c5
  have HC6 := Aside0.mk H
  clear H
  go_enter Try.func90, Try.ntmps90
  go_upto_region 2 with (fail)
  repeat (go_quiet (fail); go_upto_region 2 with (fail))
  go_cut [24] (fun v24 wc => ∃ (kq : Nat) (x24_5 : Bool), v24 = .bool x24_5 ∧ Aside0 (roadbookref20_picked.j0 kq l0 l1 l2 a3 x24_5 = some r) ∧ Aside0 (kq ≤ k) ∧ Drawn0 w wc)
  case first =>
   have H := HC6.out
   clear HC6
   by_cases c7 : 0 ≤ a3
   ·rw [if_pos c7] at H
    have c7b0 : decide (0 ≤ a3) = true := decide_eq_true c7
    clear c7
    (first | rw [c7b0] | (simp only [i64_w, i32_w]; rw [c7b0]) | skip)
    by_cases c8 : (rd l2 a3) < 0
    ·rw [if_pos c8] at H
     have c8b0 : decide ((rd l2 a3) < 0) = true := decide_eq_true c8
     clear c8
     have H' := Aside0.mk H
     clear H
     have p11 : 0 ≤ (a3 : Int) := of_decide_eq_true (by first | (with_reducible assumption) | assumption)
     have q11 : a3 < (l2.length : Int) := of_decide_eq_true (by first | (with_reducible assumption) | assumption)
     obtain ⟨ad11, e11, hx11_0⟩ := Kd.at_int HR2.out a3 p11 q11
     cases e11
     replace p11 := eq_true p11
     replace q11 := eq_true q11
     go_wp2
     repeat (go_quiet (fail); try go_wp2)
     go_meet
     case rel => exact ⟨_, (true), (by first | rfl | (simp; done) | (simp [*]; done)), H', ⟨by first | omega | exact Nat.le_refl _⟩, by repeat (first | exact Drawn0.refl _ | apply Drawn0.step)⟩
    ·rw [if_neg c8] at H
     have c8b0 : decide ((rd l2 a3) < 0) = false := decide_eq_false c8
     clear c8
     have H' := Aside0.mk H
     clear H
     have p11 : 0 ≤ (a3 : Int) := of_decide_eq_true (by first | (with_reducible assumption) | assumption)
     have q11 : a3 < (l2.length : Int) := of_decide_eq_true (by first | (with_reducible assumption) | assumption)
     obtain ⟨ad11, e11, hx11_0⟩ := Kd.at_int HR2.out a3 p11 q11
     cases e11
     replace p11 := eq_true p11
     replace q11 := eq_true q11
     go_wp2
     repeat (go_quiet (fail); try go_wp2)
     go_meet
     case rel => exact ⟨_, (((l0.length : Int) == 0)), (by first | rfl | (simp; done) | (simp [*]; done)), H', ⟨by first | omega | exact Nat.le_refl _⟩, by repeat (first | exact Drawn0.refl _ | apply Drawn0.step)⟩
   ·rw [if_neg c7] at H
    exact absurd H (by simp)
  case rest =>
   clear HC6
   try clear c1
   try clear p1
   try clear q1
   try clear hx1
   try clear c2
   try clear p2
   try clear c5
   try clear c5b0
   try clear c7
   try clear c7b0
   try clear c8
   try clear c8b0
   try clear hx11_0
   try clear p11
   try clear q11
   obtain ⟨kq, x24_5, rfl, HA, HJ5, ⟨mc5, rfl⟩⟩ := hcut
   cases kq with
   | zero => exact absurd HA.out (by simp [roadbookref20_picked.j0])
   | succ kj5 =>
    have H := HA.out
    clear HA
    simp only [roadbookref20_picked.j0] at H
    by_cases c9 : x24_5 = true
    ·subst c9
     have H1 : (some (-1)) = some r := by rw [if_pos rfl] at H; exact H
     clear H
     have H := H1
     clear H1
     obtain rfl := Option.some.inj H
     go_wp2
     repeat (go_quiet (fail); try go_wp2)
     go_ret
     exact ⟨by first | rfl | (simp; done) | (simp [*]; done), by repeat (first | exact Drawn0.refl _ | apply Drawn0.step)⟩
    ·replace c9 := Bool.eq_false_iff.mpr c9
     subst c9
     have H1 : (if 0 ≤ a3 then (if a3 < (l2.length : Int) then (if (l0.length : Int) = 0 then (none) else (if 0 ≤ (Int.tmod (rd l2 a3) (l0.length : Int)) then (if (Int.tmod (rd l2 a3) (l0.length : Int)) < (l1.length : Int) then (if (Int.tmod (rd l2 a3) (l0.length : Int)) < (l0.length : Int) then (if (rd l1 (Int.tmod (rd l2 a3) (l0.length : Int))) ≥ (wrap64 (3 * ((rd_L5 l0 (Int.tmod (rd l2 a3) (l0.length : Int))).length : Int))) then (some (-1)) else (some (Int.tmod (rd l2 a3) (l0.length : Int)))) else (none)) else (none)) else (none))) else (none)) else (none)) = some r := by rw [if_neg (show ¬ (false = true) by decide)] at H; exact H
     clear H
     have H := H1
     clear H1
     by_cases c10 : 0 ≤ a3
     ·rw [if_pos c10] at H
      have c10b0 : decide (0 ≤ a3) = true := decide_eq_true c10
      clear c10
      by_cases c11 : a3 < (l2.length : Int)
      ·rw [if_pos c11] at H
       have c11b0 : decide (a3 < (l2.length : Int)) = true := decide_eq_true c11
       clear c11
       by_cases c12 : (l0.length : Int) = 0
       ·rw [if_pos c12] at H
        exact absurd H (by simp)
       ·rw [if_neg c12] at H
        have c12b0 : ((l0.length : Int) == 0) = false := beq_eq_false_iff_ne.mpr c12
        have c12b1 : ((l0.length : Int) != 0) = true := bne_iff_ne.mpr c12
        have c12b2 : ¬ (l0 = []) := fun h_ => c12 (by rw [h_]; rfl)
        obtain ⟨ji13, hji13⟩ : ∃ j_ : Int, (Int.tmod (rd l2 a3) (l0.length : Int)) = j_ := ⟨_, rfl⟩
        replace H : (if 0 ≤ (ji13) then (if (ji13) < (l1.length : Int) then (if (ji13) < (l0.length : Int) then (if (rd l1 (ji13)) ≥ (wrap64 (3 * ((rd_L5 l0 (ji13)).length : Int))) then (some (-1)) else (some ji13)) else (none)) else (none)) else (none)) = some r := by first | (rw [hji13] at H; exact H) | (simp only [hji13] at H ⊢; exact H)
        by_cases c14 : 0 ≤ (ji13)
        ·rw [if_pos c14] at H
         have c14b0 : decide (0 ≤ (ji13)) = true := decide_eq_true c14
         clear c14
         by_cases c15 : (ji13) < (l1.length : Int)
         ·rw [if_pos c15] at H
          have c15b0 : decide ((ji13) < (l1.length : Int)) = true := decide_eq_true c15
          clear c15
          by_cases c16 : (ji13) < (l0.length : Int)
          ·rw [if_pos c16] at H
           have c16b0 : decide ((ji13) < (l0.length : Int)) = true := decide_eq_true c16
           clear c16
           by_cases c17 : (rd l1 (ji13)) ≥ (wrap64 (3 * ((rd_L5 l0 (ji13)).length : Int)))
           ·rw [if_pos c17] at H
            have c17b0 : decide ((wrap64 (3 * ((rd_L5 l0 (ji13)).length : Int))) ≤ (rd l1 (ji13))) = true := decide_eq_true c17
            clear c17
            obtain rfl := Option.some.inj H
            have p12 : 0 ≤ (a3 : Int) := of_decide_eq_true (by first | (with_reducible assumption) | assumption)
            have q12 : a3 < (l2.length : Int) := of_decide_eq_true (by first | (with_reducible assumption) | assumption)
            obtain ⟨ad12, e12, hx12_0⟩ := Kd.at_int HR2.out a3 p12 q12
            cases e12
            replace p12 := eq_true p12
            replace q12 := eq_true q12
            have p13 : 0 ≤ ((ji13) : Int) := of_decide_eq_true (by first | (with_reducible assumption) | assumption)
            have q13 : (ji13) < (l1.length : Int) := of_decide_eq_true (by first | (with_reducible assumption) | assumption)
            obtain ⟨ad13, e13, hx13_0⟩ := Kd.at_int HR1.out (ji13) p13 q13
            cases e13
            replace p13 := eq_true p13
            replace q13 := eq_true q13
            have p14 : 0 ≤ ((ji13) : Int) := of_decide_eq_true (by first | (with_reducible assumption) | assumption)
            have q14 : (ji13) < (l0.length : Int) := of_decide_eq_true (by first | (with_reducible assumption) | assumption)
            obtain ⟨ad14, A14_0, c14_0, e14, hx14_0, hl14_0, hi14_0⟩ := at_L5 HR0.out (ji13) p14 q14
            cases e14
            have HR14_0 := Aside0.mk hi14_0
            have HC14_0 := Aside0.mk hl14_0
            clear hi14_0 hl14_0
            replace p14 := eq_true p14
            replace q14 := eq_true q14
            go_wp2
            repeat (go_quiet (fail); try go_wp2)
            go_ret
            exact ⟨by first | rfl | (simp; done) | (simp only [← hji13] <;> (first | rfl | simp)) | (simp [*]; done), by repeat (first | exact Drawn0.refl _ | apply Drawn0.step)⟩
           ·rw [if_neg c17] at H
            have c17b0 : decide ((wrap64 (3 * ((rd_L5 l0 (ji13)).length : Int))) ≤ (rd l1 (ji13))) = false := decide_eq_false c17
            clear c17
            obtain rfl := Option.some.inj H
            have p12 : 0 ≤ (a3 : Int) := of_decide_eq_true (by first | (with_reducible assumption) | assumption)
            have q12 : a3 < (l2.length : Int) := of_decide_eq_true (by first | (with_reducible assumption) | assumption)
            obtain ⟨ad12, e12, hx12_0⟩ := Kd.at_int HR2.out a3 p12 q12
            cases e12
            replace p12 := eq_true p12
            replace q12 := eq_true q12
            have p13 : 0 ≤ ((ji13) : Int) := of_decide_eq_true (by first | (with_reducible assumption) | assumption)
            have q13 : (ji13) < (l1.length : Int) := of_decide_eq_true (by first | (with_reducible assumption) | assumption)
            obtain ⟨ad13, e13, hx13_0⟩ := Kd.at_int HR1.out (ji13) p13 q13
            cases e13
            replace p13 := eq_true p13
            replace q13 := eq_true q13
            have p14 : 0 ≤ ((ji13) : Int) := of_decide_eq_true (by first | (with_reducible assumption) | assumption)
            have q14 : (ji13) < (l0.length : Int) := of_decide_eq_true (by first | (with_reducible assumption) | assumption)
            obtain ⟨ad14, A14_0, c14_0, e14, hx14_0, hl14_0, hi14_0⟩ := at_L5 HR0.out (ji13) p14 q14
            cases e14
            have HR14_0 := Aside0.mk hi14_0
            have HC14_0 := Aside0.mk hl14_0
            clear hi14_0 hl14_0
            replace p14 := eq_true p14
            replace q14 := eq_true q14
            go_wp2
            repeat (go_quiet (fail); try go_wp2)
            go_ret
            exact ⟨by first | rfl | (simp; done) | (simp only [← hji13] <;> (first | rfl | simp)) | (simp [*]; done), by repeat (first | exact Drawn0.refl _ | apply Drawn0.step)⟩
          ·rw [if_neg c16] at H
           exact absurd H (by simp)
         ·rw [if_neg c15] at H
          exact absurd H (by simp)
        ·rw [if_neg c14] at H
         exact absurd H (by simp)
      ·rw [if_neg c11] at H
       exact absurd H (by simp)
     ·rw [if_neg c10] at H
      exact absurd H (by simp)
 ·rw [if_neg c5] at H
  have c5b0 : decide (a3 < (l2.length : Int)) = false := decide_eq_false c5
  clear c5
  have H' := Aside0.mk H
  clear H
  go_enter Try.func90, Try.ntmps90
  go_wp2
  repeat (go_quiet (fail); try go_wp2)
  go_loopg [10] k (fun kq v10 w' => ∃ (x10_1 : Int), v10 = .int .i64 x10_1 ∧ Aside0 (roadbookref20_picked.l0 kq l0 l1 x10_1 = some r) ∧ Aside0 (kq ≤ k) ∧ Drawn0 w w')
  case atStart => exact ⟨(0), (by first | rfl | (simp; done) | (simp [*]; done)), H', ⟨Nat.le_refl _⟩, by repeat (first | exact Drawn0.refl _ | apply Drawn0.step)⟩
  case round =>
   clear H'
   try clear c1
   try clear p1
   try clear q1
   try clear hx1
   try clear c2
   try clear p2
   try clear c5
   try clear c5b0
   try clear p6
   try clear c7
   try clear c7b0
   try clear c8
   try clear c8b0
   try clear c9
   try clear c10
   try clear c10b0
   try clear c11
   try clear c11b0
   try clear p11
   try clear q11
   try clear hx11
   try clear c12
   try clear c12b0
   try clear c12b1
   try clear c12b2
   try clear p12
   try clear q12
   try clear hx12
   try clear p13
   try clear q13
   try clear hx13
   try clear c14
   try clear c14b0
   try clear p14
   try clear q14
   try clear hx14
   try clear c15
   try clear c15b0
   try clear c16
   try clear c16b0
   try clear c17
   try clear c17b0
   try clear hx11_0
   try clear hx12_0
   try clear hx13_0
   try clear hx14_0
   try clear p1
   try clear p11
   try clear p12
   try clear p13
   try clear p14
   try clear p2
   try clear q1
   try clear q11
   try clear q12
   try clear q13
   try clear q14
   obtain ⟨x10_1, rfl, HA, HK1, ⟨m1, rfl⟩⟩ := hrel
   cases gk with
   | zero => exact absurd HA.out (by simp [roadbookref20_picked.l0])
   | succ k1 =>
    have H := HA.out
    clear HA
    simp only [roadbookref20_picked.l0] at H
    by_cases c18 : x10_1 < (l0.length : Int)
    ·rw [if_pos c18] at H
     have c18b0 : decide (x10_1 < (l0.length : Int)) = true := decide_eq_true c18
     clear c18
     by_cases c19 : 0 ≤ x10_1
     ·rw [if_pos c19] at H
      have c19b0 : decide (0 ≤ x10_1) = true := decide_eq_true c19
      clear c19
      by_cases c20 : x10_1 < (l1.length : Int)
      ·rw [if_pos c20] at H
       have c20b0 : decide (x10_1 < (l1.length : Int)) = true := decide_eq_true c20
       clear c20
       by_cases c21 : (rd l1 x10_1) < (wrap64 (3 * ((rd_L5 l0 x10_1).length : Int)))
       ·rw [if_pos c21] at H
        have c21b0 : decide ((rd l1 x10_1) < (wrap64 (3 * ((rd_L5 l0 x10_1).length : Int)))) = true := decide_eq_true c21
        clear c21
        obtain rfl := Option.some.inj H
        have p15 : 0 ≤ (x10_1 : Int) := of_decide_eq_true (by first | (with_reducible assumption) | assumption)
        have q15 : x10_1 < (l1.length : Int) := of_decide_eq_true (by first | (with_reducible assumption) | assumption)
        obtain ⟨ad15, e15, hx15_0⟩ := Kd.at_int HR1.out x10_1 p15 q15
        cases e15
        replace p15 := eq_true p15
        replace q15 := eq_true q15
        have p16 : 0 ≤ (x10_1 : Int) := of_decide_eq_true (by first | (with_reducible assumption) | assumption)
        have q16 : x10_1 < (l0.length : Int) := of_decide_eq_true (by first | (with_reducible assumption) | assumption)
        obtain ⟨ad16, A16_0, c16_0, e16, hx16_0, hl16_0, hi16_0⟩ := at_L5 HR0.out x10_1 p16 q16
        cases e16
        have HR16_0 := Aside0.mk hi16_0
        have HC16_0 := Aside0.mk hl16_0
        clear hi16_0 hl16_0
        replace p16 := eq_true p16
        replace q16 := eq_true q16
        go_wp2
        repeat (go_quiet (fail); try go_wp2)
        go_ret
        exact ⟨by first | rfl | (simp; done) | (simp [*]; done), by repeat (first | exact Drawn0.refl _ | apply Drawn0.step)⟩
       ·rw [if_neg c21] at H
        have c21b0 : decide ((rd l1 x10_1) < (wrap64 (3 * ((rd_L5 l0 x10_1).length : Int)))) = false := decide_eq_false c21
        clear c21
        have H' := Aside0.mk H
        clear H
        have p15 : 0 ≤ (x10_1 : Int) := of_decide_eq_true (by first | (with_reducible assumption) | assumption)
        have q15 : x10_1 < (l1.length : Int) := of_decide_eq_true (by first | (with_reducible assumption) | assumption)
        obtain ⟨ad15, e15, hx15_0⟩ := Kd.at_int HR1.out x10_1 p15 q15
        cases e15
        replace p15 := eq_true p15
        replace q15 := eq_true q15
        have p16 : 0 ≤ (x10_1 : Int) := of_decide_eq_true (by first | (with_reducible assumption) | assumption)
        have q16 : x10_1 < (l0.length : Int) := of_decide_eq_true (by first | (with_reducible assumption) | assumption)
        obtain ⟨ad16, A16_0, c16_0, e16, hx16_0, hl16_0, hi16_0⟩ := at_L5 HR0.out x10_1 p16 q16
        cases e16
        have HR16_0 := Aside0.mk hi16_0
        have HC16_0 := Aside0.mk hl16_0
        clear hi16_0 hl16_0
        replace p16 := eq_true p16
        replace q16 := eq_true q16
        go_wp2
        repeat (go_quiet (fail); try go_wp2)
        go_roundg k1
        case measure => have := HK1.out; omega
        case rel => exact ⟨(wrap64 (x10_1 + 1)), (by first | rfl | (simp; done) | (simp [*]; done)), H', ⟨by have := HK1.out; omega⟩, by repeat (first | exact Drawn0.refl _ | apply Drawn0.step)⟩
      ·rw [if_neg c20] at H
       exact absurd H (by simp)
     ·rw [if_neg c19] at H
      exact absurd H (by simp)
    ·rw [if_neg c18] at H
     have c18b0 : decide (x10_1 < (l0.length : Int)) = false := decide_eq_false c18
     clear c18
     obtain rfl := Option.some.inj H
     go_wp2
     repeat (go_quiet (fail); try go_wp2)
     go_ret
     exact ⟨by first | rfl | (simp; done) | (simp [*]; done), by repeat (first | exact Drawn0.refl _ | apply Drawn0.step)⟩
end Go.Proofs.Ytkidnomkfdnciaa.All
namespace Go.Proofs.Ytkidnomkfdnciaa.Pure
open Go.RowKit Go.Proofs.Ytkidnomkfdnciaa.All Go.Proofs.YtkidnomkfdnciaaW.PrintWords
def mkE (w r : Nat) : S68 := ⟨(w : Int), ((r / 3 : Nat) : Int), ((r % 3 : Nat) : Int)⟩
theorem mkE_inj {w r w' r' : Nat} (h : mkE w r = mkE w' r') : w = w' ∧ r = r' := by
 unfold mkE at h
 injection h with h1 h2 h3
 have h1 := Int.ofNat.inj h1
 have h2 := Int.ofNat.inj h2
 have h3 := Int.ofNat.inj h3
 omega
theorem getD_snoc' {α : Type} (l : List α) (x z : α) (i : Nat) : (l ++ [x]).getD i z = if i < l.length then l.getD i z else if i = l.length then x else z := getD_snoc l x z i
def res (o : One) : List S73 := if o.st = 2 then o.ended ++ [⟨o.g, o.e⟩] else o.ended
section
variable {L : List (List S76)} {s : St} {i : Nat}
theorem step_ev (hl : left s i) (hst : (nth s i).st ≤ 2) : (stepT s i).ev = s.ev ++ [mkE i (rank (nth s i))] := by
 unfold stepT mkE rank
 rw [if_pos hl]
 have a : (3 * (nth s i).at_ + (nth s i).st) / 3 = (nth s i).at_ := by omega
 have b : (3 * (nth s i).at_ + (nth s i).st) % 3 = (nth s i).st := by omega
 rw [a, b]
structure EvI (L : List (List S76)) (s : St) : Prop where
 a : ∀ j, j < s.ev.length → ∃ w r, w < L.length ∧ r < rank (nth s w) ∧ s.ev.getD j z68 = mkE w r
 b : ∀ j j' w r r', j < j' → j' < s.ev.length → s.ev.getD j z68 = mkE w r → s.ev.getD j' z68 = mkE w r' → r < r'
 c : ∀ w, w < L.length → ∀ r, r < rank (nth s w) → ∃ j, j < s.ev.length ∧ s.ev.getD j z68 = mkE w r
theorem EvI.start (N : List S48) (G P : List Int) (L : List (List S76)) : EvI L (start N G P L) :=
 ⟨fun j h => absurd h (Nat.not_lt_zero _), fun j j' w r r' _ h => absurd h (Nat.not_lt_zero _), fun w hw r hr => by
  rw [start_nth N G P L hw] at hr
  exact absurd hr (Nat.not_lt_zero _)⟩
theorem EvI.step (g : Good L s) (hi : i < L.length) (hl : left s i) (e : EvI L s) : EvI L (stepT s i) := by
 have hn := step_nth (g.il hi) hl
 have hst := g.st i hi
 have hev := step_ev hl hst
 have hr := next_rank (s := s) hst
 have hlen : (stepT s i).ev.length = s.ev.length + 1 := by rw [hev]; simp
 have up : ∀ w, rank (nth s w) ≤ rank (nth (stepT s i) w) := fun w => by
  rw [hn w]
  split
  ·rename_i h; subst h; omega
  ·exact Nat.le_refl _
 have old : ∀ j, j < s.ev.length → (stepT s i).ev.getD j z68 = s.ev.getD j z68 := fun j hj => by rw [hev, getD_snoc', if_pos hj]
 have new : (stepT s i).ev.getD s.ev.length z68 = mkE i (rank (nth s i)) := by rw [hev, getD_snoc', if_neg (by omega), if_pos rfl]
 refine ⟨fun j hj => ?_, fun j j' w r r' hjj hj' h h' => ?_, fun w hw r hwr => ?_⟩
 ·by_cases h : j < s.ev.length
  ·obtain ⟨w, r, h1, h2, h3⟩ := e.a j h
   exact ⟨w, r, h1, Nat.lt_of_lt_of_le h2 (up w), by rw [old j h]; exact h3⟩
  ·obtain rfl : j = s.ev.length := by omega
   exact ⟨i, _, hi, by rw [hn i, if_pos rfl]; omega, new⟩
 ·rw [old j (by omega)] at h
  by_cases h1 : j' < s.ev.length
  ·rw [old j' h1] at h'
   exact e.b j j' w r r' hjj h1 h h'
  ·obtain rfl : j' = s.ev.length := by omega
   rw [new] at h'
   obtain ⟨rfl, rfl⟩ := mkE_inj h'
   obtain ⟨w0, r0, _, h2, h3⟩ := e.a j (by omega)
   rw [h] at h3
   obtain ⟨rfl, rfl⟩ := mkE_inj h3
   exact h2
 ·rw [hn w] at hwr
  by_cases h : w = i
  ·rw [if_pos h] at hwr
   subst h
   by_cases h2 : r < rank (nth s w)
   ·obtain ⟨j, h3, h4⟩ := e.c w hw r h2
    exact ⟨j, by omega, by rw [old j h3]; exact h4⟩
   ·obtain rfl : r = rank (nth s w) := by omega
    exact ⟨s.ev.length, by omega, new⟩
  ·rw [if_neg h] at hwr
   obtain ⟨j, h3, h4⟩ := e.c w hw r hwr
   exact ⟨j, by omega, by rw [old j h3]; exact h4⟩
theorem Reach.rank {N : List S48} {G P : List Int} (h : Reach N G P L s) {w : Nat} (hw : w < L.length) : rank (nth s w) = 3 * (L.getD w []).length := by
 have a := h.done w hw
 have b := h.good.z w hw a
 unfold Pure.rank
 omega
theorem next_res (hst : (nth s i).st ≤ 2) : res (nextOne s i) = if (nth s i).st = 1 then res (nth s i) ++ [⟨(doing s i).2.2.2.1, (doing s i).2.2.2.2⟩] else res (nth s i) := by
 unfold nextOne res
 by_cases h0 : (nth s i).st = 0
 ·simp [h0]
 ·by_cases h1 : (nth s i).st = 1
  ·simp [h1]
  ·have h2 : (nth s i).st = 2 := by omega
   simp [h2]
theorem step_memo (hl : left s i) : ((stepT s i).N, (stepT s i).G, (stepT s i).P) = if (nth s i).st = 1 then ((doing s i).1, (doing s i).2.1, (doing s i).2.2.1) else (s.N, s.G, s.P) := by
 unfold stepT
 rw [if_pos hl]
 split <;> rfl
theorem Reach.res {N : List S48} {G P : List Int} (h : Reach N G P L s) {w : Nat} (hw : w < L.length) : (nth s w).ended = res (nth s w) := by
 have a := h.good.z w hw (h.done w hw)
 unfold Pure.res
 rw [if_neg (by omega)]
end
def BackOk (P : List Int) (b : S73) : Prop := (b.f1 = 0 → inB P b.f0 = true) ∧ (b.f1 ≠ 0 → b.f0 = -1)
structure Later (N : List S48) (G P : List Int) (N' : List S48) (G' P' : List Int) : Prop where
 may : mayMB N' G' P' = true
 n : N.length ≤ N'.length
 p : P.length ≤ P'.length
 ns : ∀ j, j < N.length → N'.getD j z48 = N.getD j z48
 gs : ∀ j, j < N.length → G'.getD j 0 = G.getD j 0
 one : ∀ a b, inB P a = true → inB P b = true → findS P a = findS P b → findS P' a = findS P' b
theorem Later.refl {N : List S48} {G P : List Int} (h : mayMB N G P = true) : Later N G P N G P := ⟨h, Nat.le_refl _, Nat.le_refl _, fun _ _ => rfl, fun _ _ => rfl, fun _ _ _ _ e => e⟩
theorem inB_up {P P' : List Int} (h : P.length ≤ P'.length) {a : Int} (ha : inB P a = true) : inB P' a = true := by
 have := inB_iff.1 ha
 exact inB_iff.2 ⟨this.1, by omega⟩
theorem Later.trans {N N1 N2 : List S48} {G P G1 P1 G2 P2 : List Int} (h : Later N G P N1 G1 P1) (h' : Later N1 G1 P1 N2 G2 P2) : Later N G P N2 G2 P2 :=
 ⟨h'.may, Nat.le_trans h.n h'.n, Nat.le_trans h.p h'.p, fun j hj => (h'.ns j (Nat.lt_of_lt_of_le hj h.n)).trans (h.ns j hj), fun j hj => (h'.gs j (Nat.lt_of_lt_of_le hj h.n)).trans (h.gs j hj),
  fun a b ha hb e => h'.one a b (inB_up h.p ha) (inB_up h.p hb) (h.one a b ha hb e)⟩
theorem BackOk.up {P P' : List Int} (h : P.length ≤ P'.length) {b : S73} (k : BackOk P b) : BackOk P' b := ⟨fun e => inB_up h (k.1 e), k.2⟩
theorem there_ok {P : List Int} {x : Int} (h : x = -1 ∨ inB P x = true) : BackOk P ⟨(thereT x).1, (thereT x).2⟩ := by
 unfold thereT
 by_cases hx : x = -1
 ·rw [if_pos hx]; exact ⟨fun e => absurd (show (2 : Int) = 0 from e) (by decide), fun _ => rfl⟩
 ·rw [if_neg hx]; exact ⟨fun _ => h.resolve_left hx, fun e => absurd rfl e⟩
theorem do_later {N : List S48} {G P : List Int} (hm : mayMB N G P = true) (c : S76) : Later N G P (doT N G P c).1 (doT N G P c).2.1 (doT N G P c).2.2.1 ∧ BackOk (doT N G P c).2.2.1 ⟨(doT N G P c).2.2.2.1, (doT N G P c).2.2.2.2⟩ := by
 have hP := may_P hm
 unfold doT
 by_cases h0 : c.f0 = 0
 ·simp only [if_pos h0]
  have h := put_cases N G P c.f1 c.f2
  by_cases he : (putT N G P c.f1 c.f2).2.2.2.2 = 0
  ·have k := h.ok he
   obtain ⟨i, hi, _, hh⟩ := k.at_
   refine ⟨⟨k.may, k.n0, k.p0, k.ns, k.gs, k.one⟩, fun _ => ?_, fun e => absurd he e⟩
   show inB _ (putT N G P c.f1 c.f2).2.2.2.1 = true
   rw [hh]
   exact (find_bd (may_P k.may) (form_G (may_form k.may) hi)).1
  ·obtain ⟨a, b, d, e⟩ := h.no he
   rw [b, d, e]
   exact ⟨Later.refl hm, fun e => absurd e he, fun _ => a⟩
 ·simp only [if_neg h0]
  by_cases h1 : c.f0 = 1
  ·simp only [if_pos h1]
   rcases mer_cases N G P c.f2 c.f3 with h | ⟨h, e⟩
   ·rw [h]; exact ⟨Later.refl hm, fun e => absurd (show (1 : Int) = 0 from e) (by decide), fun _ => rfl⟩
   ·rw [e]
    refine ⟨⟨h.after, Nat.le_refl _, Nat.le_of_eq h.len.symm, fun _ _ => rfl, fun _ _ => rfl, fun a b ha hb e => h.spec.le.same hP h.spec.may ha hb e⟩, fun _ => ?_, fun e => absurd rfl e⟩
    exact (find_bd h.spec.may (by rw [h.inB]; exact h.a)).1
  ·simp only [if_neg h1]
   by_cases h2 : c.f0 = 2
   ·simp only [if_pos h2]
    refine ⟨Later.refl hm, there_ok ?_⟩
    by_cases e : findS P c.f2 = -1
    ·exact .inl e
    ·exact .inr (find_bd hP (find_ne e).2).1
   ·simp only [if_neg h2]
    by_cases h3 : c.f0 = 3
    ·simp only [if_pos h3]
     refine ⟨Later.refl hm, there_ok ?_⟩
     rcases look_cases N G P c.f1 with ⟨h, _⟩ | ⟨_, _, i, hi, _, h⟩
     ·rw [h]; exact .inl rfl
     ·rw [h]; exact .inr (find_bd hP (form_G (may_form hm) hi)).1
    ·simp only [if_neg h3]
     exact ⟨Later.refl hm, fun e => absurd (show (1 : Int) = 0 from e) (by decide), fun _ => rfl⟩
structure Keep (N : List S48) (G P : List Int) (s : St) : Prop where
 later : Later N G P s.N s.G s.P
 back : ∀ i b, b ∈ res (nth s i) → BackOk s.P b
theorem Reach.keep {N : List S48} {G P : List Int} {L : List (List S76)} {s : St} (h : Reach N G P L s) (hm : mayMB N G P = true) : Keep N G P s := by
 refine h.ind (Keep N G P) ⟨Later.refl hm, fun i b hb => ?_⟩ (fun s i g hi hl q => ?_)
 ·exfalso
  by_cases hi : i < L.length
  ·rw [start_nth N G P L hi] at hb; exact absurd hb List.not_mem_nil
  ·have : nth (start N G P L) i = zOne := by
    unfold nth start
    rw [List.getD_eq_getElem?_getD, List.getElem?_eq_none (by simp; omega)]; rfl
   rw [this] at hb; exact absurd hb List.not_mem_nil
 ·have hn := step_nth (g.il hi) hl
  have hst := g.st i hi
  have hm := step_memo hl
  by_cases h1 : (nth s i).st = 1
  ·rw [if_pos h1] at hm
   injection hm with m1 hm
   injection hm with m2 m3
   obtain ⟨k, kb⟩ := do_later q.later.may ((nth s i).l.getD (nth s i).at_ z76)
   refine ⟨by rw [m1, m2, m3]; exact q.later.trans k, fun j b hb => ?_⟩
   rw [m3]
   rw [hn j] at hb
   by_cases e : j = i
   ·rw [if_pos e, next_res hst, if_pos h1] at hb
    rcases List.mem_append.1 hb with h | h
    ·exact (q.back i b h).up k.p
    ·rw [List.mem_singleton.1 h]; exact kb
   ·rw [if_neg e] at hb
    exact (q.back j b hb).up k.p
  ·rw [if_neg h1] at hm
   injection hm with m1 hm
   injection hm with m2 m3
   refine ⟨by rw [m1, m2, m3]; exact q.later, fun j b hb => ?_⟩
   rw [m3]
   rw [hn j] at hb
   by_cases e : j = i
   ·rw [if_pos e, next_res hst, if_neg h1] at hb
    exact q.back i b hb
   ·rw [if_neg e] at hb
    exact q.back j b hb
end Go.Proofs.Ytkidnomkfdnciaa.Pure
namespace Go.Proofs.Ytkidnomkfdnciaa.All
open Go.RowKit Go.Proofs.YtkidnomkfdnciaaW.PrintWords Go.Proofs.YtkidnomkfdnciaaW.PrintLast Go.Proofs.YtkidnomkfdnciaaW.PrintMore
attribute [local go_sem] max2_int min2_int max_two min_two max_three min_three max_four min_four
set_option linter.unusedVariables false
set_option linter.unusedSimpArgs false
mutual
def roadbooklaw20_few.j0 : Nat → List (List (S76)) → Bool → Option (Bool)
 | 0, _, _ => none
 | k + 1, x0, x5 => roadbooklaw20_few.l0 k x0 x5 0
def roadbooklaw20_few.l0 : Nat → List (List (S76)) → Bool → Int → Option (Bool)
 | 0, _, _, _ => none
 | k + 1, x0, x5, x6 => if x6 < (x0.length : Int) then (if x5 = true then (if 0 ≤ x6 then (roadbooklaw20_few.l0 k x0 (decide (((rd_L5 x0 x6).length : Int) ≤ 12)) (wrap64 (x6 + 1))) else (none)) else (some x5)) else (some x5)
end
def roadbooklaw20_few.f (k : Nat) (l0 : List (List (S76))) (l1 : List Int) : Option (Bool) := if (l0.length : Int) ≤ 12 then (roadbooklaw20_few.j0 k l0 (decide ((l1.length : Int) ≤ 200))) else (roadbooklaw20_few.j0 k l0 false)
theorem roadbooklaw20_few.mono_l : ∀ k, (∀ y0 y1, LeO (roadbooklaw20_few.j0 k y0 y1) (roadbooklaw20_few.j0 (k + 1) y0 y1)) ∧ (∀ y0 y1 y2, LeO (roadbooklaw20_few.l0 k y0 y1 y2) (roadbooklaw20_few.l0 (k + 1) y0 y1 y2))
 | 0 => ⟨fun _ _ r h => by simp [roadbooklaw20_few.j0] at h, fun _ _ _ r h => by simp [roadbooklaw20_few.l0] at h⟩
 | k + 1 => by
  obtain ⟨ih0, ih1⟩ := roadbooklaw20_few.mono_l k
  refine ⟨?_, ?_⟩
  ·intro y0 y1
   unfold roadbooklaw20_few.j0
   repeat' first
   | (with_reducible exact ih1 _ _ _)
  ·intro y0 y1 y2
   unfold roadbooklaw20_few.l0
   repeat' first
   | (with_reducible exact ih1 _ _ _)
   | (with_reducible exact LeO.refl _)
   | (with_reducible refine LeO.ite ?_ ?_)
theorem roadbooklaw20_few.mono : ∀ a0 a1 k, LeO (roadbooklaw20_few.f k a0 a1) (roadbooklaw20_few.f (k + 1) a0 a1) := by
 intro a0 a1 k
 obtain ⟨ih0, ih1⟩ := roadbooklaw20_few.mono_l k
 unfold roadbooklaw20_few.f
 repeat' first
   | (with_reducible exact ih0 _ _)
   | (with_reducible refine LeO.ite ?_ ?_)
set_option maxHeartbeats 8000000 in
set_option maxRecDepth 100000 in
theorem roadbooklaw20_few.calls (k : Nat) (A0 : Option Addr) (c0 : Nat) (l0 : List (List (S76))) (A1 : Option Addr) (c1 : Nat) (l1 : List Int) (r : Bool) (w : World) (hr0 : Kd.C (Kd.slice 76 k76) w A0 l0.length l0) (hc0 : l0.length ≤ c0) (hr1 : Kd.C (Kd.int .i64) w A1 l1.length l1) (hc1 : l1.length ≤ c1) (h : roadbooklaw20_few.f k l0 l1 = some r) :
  Calls Try.prog 57 #[.slice A0 l0.length c0, .slice A1 l1.length c1] w fun e w' => e = .returned (.bool r) ∧ Drawn0 w w' := by
 have HR0 := Aside0.mk hr0
 have HC0 := Aside0.mk hc0
 clear hr0 hc0
 have HR1 := Aside0.mk hr1
 have HC1 := Aside0.mk hc1
 clear hr1 hc1
 have H : (if (l0.length : Int) ≤ 12 then (roadbooklaw20_few.j0 k l0 (decide ((l1.length : Int) ≤ 200))) else (roadbooklaw20_few.j0 k l0 false)) = some r := h
 clear h
 have HC3 := Aside0.mk H
 clear H
 go_enter Try.func57, Try.ntmps57
 go_upto_region 1 with (fail)
 go_cut [5] (fun v5 wc => ∃ (kq : Nat) (x5_2 : Bool), v5 = .bool x5_2 ∧ Aside0 (roadbooklaw20_few.j0 kq l0 x5_2 = some r) ∧ Aside0 (kq ≤ k) ∧ Drawn0 w wc)
 case first =>
  have H := HC3.out
  clear HC3
  by_cases c4 : (l0.length : Int) ≤ 12
  ·rw [if_pos c4] at H
   have c4b0 : decide ((l0.length : Int) ≤ 12) = true := decide_eq_true c4
   have c4b1 : decide (l0.length ≤ 12) = true := decide_eq_true (by omega)
   clear c4
   (skip)
   have H' := Aside0.mk H
   clear H
   go_wp2
   go_meet
   case rel => exact ⟨_, (decide ((l1.length : Int) ≤ 200)), (by rfl), H', ⟨by omega⟩, by repeat (exact Drawn0.refl _)⟩
  ·rw [if_neg c4] at H
   have c4b0 : decide ((l0.length : Int) ≤ 12) = false := decide_eq_false c4
   have c4b1 : decide (l0.length ≤ 12) = false := decide_eq_false (by omega)
   clear c4
   (skip)
   have H' := Aside0.mk H
   clear H
   go_wp2
   go_meet
   case rel => exact ⟨_, (false), (by rfl), H', ⟨by omega⟩, by repeat (exact Drawn0.refl _)⟩
 case rest =>
  clear HC3
  obtain ⟨kq, x5_2, rfl, HA, HJ2, ⟨mc2, rfl⟩⟩ := hcut
  cases kq with
  | zero => exact absurd HA.out (by simp [roadbooklaw20_few.j0])
  | succ kj2 =>
   have H := HA.out
   clear HA
   simp only [roadbooklaw20_few.j0] at H
   have H' := Aside0.mk H
   clear H
   go_wp2
   go_loopg [5, 6] kj2 (fun kq v5 v6 w' => ∃ (x5_2 : Bool) (x6_2 : Int), v5 = .bool x5_2 ∧ v6 = .int .i64 x6_2 ∧ Aside0 (roadbooklaw20_few.l0 kq l0 x5_2 x6_2 = some r) ∧ Aside0 (kq ≤ kj2) ∧ Drawn0 w w')
   case atStart => exact ⟨(x5_2), (0), (by rfl), (by rfl), H', ⟨Nat.le_refl _⟩, by repeat (first | exact Drawn0.refl _ | apply Drawn0.step)⟩
   case round =>
    clear H'
    obtain ⟨x5_2, x6_2, rfl, rfl, HA, HK2, ⟨m2, rfl⟩⟩ := hrel
    cases gk with
    | zero => exact absurd HA.out (by simp [roadbooklaw20_few.l0])
    | succ k2 =>
     have H := HA.out
     clear HA
     simp only [roadbooklaw20_few.l0] at H
     by_cases c5 : x6_2 < (l0.length : Int)
     ·rw [if_pos c5] at H
      have c5b0 : decide (x6_2 < (l0.length : Int)) = true := decide_eq_true c5
      clear c5
      by_cases c6 : x5_2 = true
      ·subst c6
       rw [if_pos rfl] at H
       by_cases c7 : 0 ≤ x6_2
       ·rw [if_pos c7] at H
        have c7b0 : decide (0 ≤ x6_2) = true := decide_eq_true c7
        clear c7
        have H' := Aside0.mk H
        clear H
        have p11 : 0 ≤ (x6_2 : Int) := of_decide_eq_true (by (with_reducible assumption))
        have q11 : x6_2 < (l0.length : Int) := of_decide_eq_true (by (with_reducible assumption))
        obtain ⟨ad11, A11_0, c11_0, e11, hx11_0, hl11_0, hi11_0⟩ := at_L5 HR0.out x6_2 p11 q11
        cases e11
        have HR11_0 := Aside0.mk hi11_0
        have HC11_0 := Aside0.mk hl11_0
        clear hi11_0 hl11_0
        replace p11 := eq_true p11
        replace q11 := eq_true q11
        go_wp2
        go_roundg k2
        case measure => have := HJ2.out; have := HK2.out; omega
        case rel => exact ⟨(decide (((rd_L5 l0 x6_2).length : Int) ≤ 12)), (wrap64 (x6_2 + 1)), (by rfl), (by rfl), H', ⟨by have := HJ2.out; have := HK2.out; omega⟩, by repeat (first | exact Drawn0.refl _ | apply Drawn0.step)⟩
       ·rw [if_neg c7] at H
        exact absurd H (by simp)
      ·replace c6 := Bool.eq_false_iff.mpr c6
       subst c6
       rw [if_neg (show ¬ (false = true) by decide)] at H
       obtain rfl := Option.some.inj H
       go_wp2
       go_ret
       exact ⟨by rfl, by repeat (first | exact Drawn0.refl _ | apply Drawn0.step)⟩
     ·rw [if_neg c5] at H
      have c5b0 : decide (x6_2 < (l0.length : Int)) = false := decide_eq_false c5
      clear c5
      obtain rfl := Option.some.inj H
      go_wp2
      go_ret
      exact ⟨by rfl, by repeat (first | exact Drawn0.refl _ | apply Drawn0.step)⟩
end Go.Proofs.Ytkidnomkfdnciaa.All
namespace Go.Proofs.Ytkidnomkfdnciaa.Pure
open Go.RowKit Go.Proofs.Ytkidnomkfdnciaa.All Go.Proofs.YtkidnomkfdnciaaW.PrintWords
theorem up1 {i : Nat} (h : i < 1000000) : wrap64 ((i : Int) + 1) = ((i + 1 : Nat) : Int) := by
 rw [wrap_in (by omega) (by omega)]; simp
theorem few20_loop {L : List (List S76)} {Q : Prop} : ∀ (d i k : Nat) (b : Bool), i + d = L.length → L.length ≤ 12 → d < k → (b = true → Q ∧ ∀ j, j < i → (L.getD j []).length ≤ 12) → ∃ b', roadbooklaw20_few.l0 k L b (i : Int) = some b' ∧ (b' = true → Q ∧ Small L)
 | 0, i, k, b, hi, hl, hk, h => by
  obtain ⟨k, rfl⟩ : ∃ j, k = j + 1 := ⟨k - 1, by omega⟩
  rw [roadbooklaw20_few.l0, if_neg (by omega)]
  exact ⟨b, rfl, fun e => ⟨(h e).1, hl, fun j hj => (h e).2 j (by omega)⟩⟩
 | d + 1, i, k, b, hi, hl, hk, h => by
  obtain ⟨k, rfl⟩ : ∃ j, k = j + 1 := ⟨k - 1, by omega⟩
  rw [roadbooklaw20_few.l0, if_pos (by omega)]
  cases b with
  | false => exact ⟨false, by simp, fun e => by cases e⟩
  | true =>
   rw [if_pos rfl, if_pos (by omega), up1 (by omega)]
   refine few20_loop d (i + 1) k _ (by omega) hl (by omega) (fun e => ⟨(h rfl).1, fun j hj => ?_⟩)
   by_cases e2 : j < i
   ·exact (h rfl).2 j e2
   ·obtain rfl : j = i := by omega
    have := of_decide_eq_true e
    unfold rd_L5 at this
    rw [Int.toNat_natCast] at this
    omega
theorem few20_k0 (L : List (List S76)) (sc : List Int) {k : Nat} (hk : 20 ≤ k) : ∃ b, roadbooklaw20_few.f k L sc = some b ∧ (b = true → sc.length ≤ 200 ∧ Small L) := by
 obtain ⟨k, rfl⟩ : ∃ j, k = j + 1 := ⟨k - 1, by omega⟩
 unfold roadbooklaw20_few.f
 by_cases hl : (L.length : Int) ≤ 12
 ·rw [if_pos hl, roadbooklaw20_few.j0]
  exact few20_loop L.length 0 k _ (by omega) (by omega) (by omega) (fun e => ⟨by have := of_decide_eq_true e; omega, fun j hj => by omega⟩)
 ·rw [if_neg hl, roadbooklaw20_few.j0]
  obtain ⟨k, rfl⟩ : ∃ j, k = j + 1 := ⟨k - 1, by omega⟩
  rw [roadbooklaw20_few.l0]
  refine ⟨false, ?_, fun e => by cases e⟩
  simp
theorem few20_k (L : List (List S76)) (sc : List Int) : ∃ b, (∀ k, 20 ≤ k → roadbooklaw20_few.f k L sc = some b) ∧ (b = true → sc.length ≤ 200 ∧ Small L) := by
 obtain ⟨b, h, hr⟩ := few20_k0 L sc (k := 20) (by omega)
 refine ⟨b, fun k hk => ?_, hr⟩
 obtain ⟨d, rfl⟩ : ∃ d, k = 20 + d := ⟨k - 20, by omega⟩
 clear hk
 induction d with
 | zero => exact h
 | succ d ih => exact roadbooklaw20_few.mono _ _ _ _ ih
end Go.Proofs.Ytkidnomkfdnciaa.Pure
namespace Go.Proofs.Ytkidnomkfdnciaa.Pure
open Go.RowKit Go.Proofs.Ytkidnomkfdnciaa.All Go.Proofs.YtkidnomkfdnciaaW.PrintWords
set_option linter.unusedVariables false
def fl (s : St) : Nat → Nat → Option Nat
 | 0, _ => none
 | d + 1, i => if left s i then some i else fl s d (i + 1)
def pickN (n : Nat) (s : St) (sc : List Int) (a : Nat) : Option Nat :=
 if a < sc.length then (if 0 ≤ sc.getD a 0 ∧ 0 < n then (if left s ((sc.getD a 0).toNat % n) then some ((sc.getD a 0).toNat % n) else none) else none)
 else fl s n 0
def pickI : Option Nat → Int
 | some i => (i : Int)
 | none => -1
def roundT (n : Nat) (sc : List Int) (s : St) (a : Nat) : St := match pickN n s sc a with
 | some i => stepT s i
 | none => s
def rds (n : Nat) (sc : List Int) : Nat → Nat → St → St
 | 0, _, s => s
 | d + 1, a, s => rds n sc d (a + 1) (roundT n sc s a)
def tot (L : List (List S76)) : Nat := (L.map fun x => 3 * x.length).sum
theorem fl_some {s : St} : ∀ (d i : Nat) {j : Nat}, fl s d i = some j → i ≤ j ∧ j < i + d ∧ left s j
 | 0, i, j, h => by cases h
 | d + 1, i, j, h => by
  rw [fl] at h
  by_cases hl : left s i
  ·rw [if_pos hl] at h
   obtain rfl := Option.some.inj h
   exact ⟨Nat.le_refl _, by omega, hl⟩
  ·rw [if_neg hl] at h
   obtain ⟨a, b, c⟩ := fl_some d (i + 1) h
   exact ⟨by omega, by omega, c⟩
theorem fl_at {s : St} {j : Nat} (hj : left s j) : ∀ (d i : Nat), i ≤ j → j < i + d → (∀ q, i ≤ q → q < j → ¬ left s q) → fl s d i = some j
 | 0, i, h1, h2, _ => by omega
 | d + 1, i, h1, h2, h3 => by
  rw [fl]
  by_cases e : i = j
  ·subst e; rw [if_pos hj]
  ·rw [if_neg (h3 i (Nat.le_refl _) (by omega))]
   exact fl_at hj d (i + 1) (by omega) (by omega) (fun q hq => h3 q (by omega))
theorem fl_none {s : St} : ∀ (d i : Nat), (∀ q, i ≤ q → q < i + d → ¬ left s q) → fl s d i = none
 | 0, i, _ => rfl
 | d + 1, i, h => by
  rw [fl, if_neg (h i (Nat.le_refl _) (by omega))]
  exact fl_none d (i + 1) (fun q h1 h2 => h q (by omega) (by omega))
theorem pickN_some {n : Nat} {s : St} {sc : List Int} {a i : Nat} (h : pickN n s sc a = some i) : i < n ∧ left s i := by
 unfold pickN at h
 split at h
 ·split at h
  ·rename_i hx
   split at h
   ·rename_i hl
    obtain rfl := Option.some.inj h
    exact ⟨Nat.mod_lt _ hx.2, hl⟩
   ·cases h
  ·cases h
 ·obtain ⟨_, h2, h3⟩ := fl_some n 0 h
  exact ⟨by omega, h3⟩
theorem sum_tot : ∀ (l : List One) (L : List (List S76)), l.length = L.length → (∀ j, j < L.length → rank (l.getD j zOne) ≤ 3 * (L.getD j []).length) → (l.map rank).sum ≤ tot L
 | [], [], _, _ => Nat.le_refl _
 | [], _ :: _, h, _ => by simp at h
 | _ :: _, [], h, _ => by simp at h
 | x :: t, y :: u, h, hj => by
  have h0 := hj 0 (by simp)
  have ih := sum_tot t u (by simpa using h) (fun j hj' => by
   have := hj (j + 1) (by simpa using hj')
   simpa using this)
  simp only [List.getD_cons_zero] at h0
  unfold tot at ih ⊢
  simp only [List.map_cons, List.sum_cons]
  omega
section
variable {L : List (List S76)} {s : St} {i : Nat}
theorem Good.rank_le (g : Good L s) (hi : i < L.length) : rank (nth s i) ≤ 3 * (L.getD i []).length := by
 have a := g.at_ i hi
 have b := g.st i hi
 have c := g.z i hi
 unfold rank
 by_cases e : (nth s i).at_ = (L.getD i []).length
 ·have := c e; omega
 ·omega
theorem Good.left_rank (g : Good L s) (hi : i < L.length) : left s i ↔ rank (nth s i) < 3 * (L.getD i []).length := by
 rw [g.left_iff hi]
 have a := g.at_ i hi
 have b := g.st i hi
 have c := g.z i hi
 unfold rank
 constructor
 ·intro h; omega
 ·intro h
  by_cases e : (nth s i).at_ = (L.getD i []).length
  ·have := c e; omega
  ·omega
theorem Good.ev_tot (g : Good L s) : s.ev.length ≤ tot L := by
 rw [g.ev]
 exact sum_tot _ _ g.len (fun j hj => g.rank_le hj)
theorem step_len (g : Good L s) (hi : i < L.length) (hl : left s i) : (stepT s i).ev.length = s.ev.length + 1 := by
 unfold stepT
 rw [if_pos hl]
 simp
theorem round_good (g : Good L s) (sc : List Int) (a : Nat) : Good L (roundT L.length sc s a) := by
 unfold roundT
 cases h : pickN L.length s sc a with
 | none => exact g
 | some i => exact step_good g (pickN_some h).1
theorem rds_good (sc : List Int) : ∀ (d a : Nat) {s : St}, Good L s → Good L (rds L.length sc d a s)
 | 0, a, s, g => g
 | d + 1, a, s, g => rds_good sc d (a + 1) (round_good g sc a)
theorem script_rds (hs : Small L) {k : Nat} (hk : 500 ≤ k) (sc : List Int) : ∀ (t : List Int) (a : Nat) {s : St}, Good L s → sc.drop a = t → scriptO k L.length t s = some (rds L.length sc t.length a s)
 | [], a, s, g, _ => rfl
 | x :: t, a, s, g, ht => by
  have hlt : a < sc.length := by
   rcases Nat.lt_or_ge a sc.length with h | h
   ·exact h
   ·rw [List.drop_eq_nil_of_le h] at ht; cases ht
  rw [List.drop_eq_getElem_cons hlt] at ht
  injection ht with hx ht
  have hx : sc.getD a 0 = x := by rw [List.getD_eq_getElem?_getD, List.getElem?_eq_getElem hlt]; exact hx
  rw [scriptO, List.length_cons, rds]
  unfold roundT pickN
  rw [if_pos hlt, hx]
  by_cases h : 0 ≤ x ∧ 0 < L.length
  ·have hi : x.toNat % L.length < L.length := Nat.mod_lt _ h.2
   rw [if_pos h, if_pos h, stepO_T g hs hi hk]
   by_cases hl : left s (x.toNat % L.length)
   ·rw [if_pos hl]
    exact script_rds hs hk sc t (a + 1) (step_good g hi) ht
   ·rw [if_neg hl, step_no hl]
    exact script_rds hs hk sc t (a + 1) g ht
  ·rw [if_neg h, if_neg h]
   exact script_rds hs hk sc t (a + 1) g ht
theorem round_first {sc : List Int} {a : Nat} (ha : sc.length ≤ a) (hi : i < L.length) (hl : left s i) (hb : ∀ j, j < i → ¬ left s j) : roundT L.length sc s a = stepT s i := by
 unfold roundT pickN
 rw [if_neg (by omega), fl_at hl L.length 0 (Nat.zero_le _) (by omega) (fun q _ hq => hb q hq)]
theorem rds_done {sc : List Int} (hb : ∀ j, j < L.length → ¬ left s j) : ∀ (r a : Nat), sc.length ≤ a → rds L.length sc r a s = s
 | 0, a, _ => rfl
 | r + 1, a, ha => by
  rw [rds]
  have : roundT L.length sc s a = s := by
   unfold roundT pickN
   rw [if_neg (by omega), fl_none L.length 0 (fun q _ hq => hb q (by omega))]
  rw [this]
  exact rds_done hb r (a + 1) (by omega)
theorem left_step (g : Good L s) (hi : i < L.length) (hl : left s i) {j : Nat} (hj : ¬ left s j) : ¬ left (stepT s i) j := by
 unfold left
 rw [step_nth (g.il hi) hl]
 by_cases e : j = i
 ·subst e; exact absurd hl hj
 ·rw [if_neg e]; exact hj
theorem fin_rds (hs : Small L) {k : Nat} (hk : 500 ≤ k) (sc : List Int) : ∀ (d f i r a : Nat) {s : St}, i + d + 1 = L.length → Good L s → (∀ j, j < i → ¬ left s j) → 3 * (L.getD i []).length < rank (nth s i) + f → tot L ≤ s.ev.length + r → sc.length ≤ a →
  (finO k i f s).bind (lastO k d (i + 1)) = some (rds L.length sc r a s) := by
 intro d
 induction d with
 | zero =>
  intro f
  induction f with
  | zero => intro i r a s hd g hb hf hr ha; have := g.rank_le (i := i) (by omega); omega
  | succ f ih =>
   intro i r a s hd g hb hf hr ha
   have hi : i < L.length := by omega
   rw [finO]
   by_cases hl : left s i
   ·rw [if_pos (show (s.ones.getD i zOne).at_ < (s.ones.getD i zOne).l.length from hl), stepO_T g hs hi hk]
    have g' := step_good g hi
    have h1 := g'.ev_tot
    have h2 := step_len g hi hl
    have h3 : rank (nth (stepT s i) i) = rank (nth s i) + 1 := by rw [step_nth (g.il hi) hl, if_pos rfl]; exact next_rank (g.st i hi)
    obtain ⟨r, rfl⟩ : ∃ r', r = r' + 1 := ⟨r - 1, by omega⟩
    rw [rds, round_first ha hi hl hb]
    exact ih i r (a + 1) hd g' (fun j hj => left_step g hi hl (hb j hj)) (by omega) (by omega) (by omega)
   ·rw [if_neg (show ¬ (s.ones.getD i zOne).at_ < (s.ones.getD i zOne).l.length from hl)]
    simp only [Option.bind_some, lastO]
    rw [rds_done (fun j hj => ?_) r a ha]
    by_cases e : j = i
    ·rw [e]; exact hl
    ·exact hb j (by omega)
 | succ d IH =>
  intro f
  induction f with
  | zero => intro i r a s hd g hb hf hr ha; have := g.rank_le (i := i) (by omega); omega
  | succ f ih =>
   intro i r a s hd g hb hf hr ha
   have hi : i < L.length := by omega
   rw [finO]
   by_cases hl : left s i
   ·rw [if_pos (show (s.ones.getD i zOne).at_ < (s.ones.getD i zOne).l.length from hl), stepO_T g hs hi hk]
    have g' := step_good g hi
    have h1 := g'.ev_tot
    have h2 := step_len g hi hl
    have h3 : rank (nth (stepT s i) i) = rank (nth s i) + 1 := by rw [step_nth (g.il hi) hl, if_pos rfl]; exact next_rank (g.st i hi)
    obtain ⟨r, rfl⟩ : ∃ r', r = r' + 1 := ⟨r - 1, by omega⟩
    rw [rds, round_first ha hi hl hb]
    exact ih i r (a + 1) hd g' (fun j hj => left_step g hi hl (hb j hj)) (by omega) (by omega) (by omega)
   ·rw [if_neg (show ¬ (s.ones.getD i zOne).at_ < (s.ones.getD i zOne).l.length from hl)]
    simp only [Option.bind_some, lastO]
    have := hs.2 (i + 1) (by omega)
    exact IH k (i + 1) r a (by omega) g (fun j hj => by
     by_cases e : j = i
     ·rw [e]; exact hl
     ·exact hb j (by omega)) (by omega) hr ha
theorem last_rds (hs : Small L) {k : Nat} (hk : 500 ≤ k) (sc : List Int) {r a : Nat} {s : St} (g : Good L s) (hr : tot L ≤ s.ev.length + r) (ha : sc.length ≤ a) : lastO k L.length 0 s = some (rds L.length sc r a s) := by
 cases hn : L.length with
 | zero =>
  rw [lastO, ← hn, rds_done (fun j hj => by omega) r a ha]
 | succ d =>
  rw [lastO, ← hn]
  have := hs.2 0 (by omega)
  exact fin_rds hs hk sc d k 0 r a (by omega) g (fun j hj => by omega) (by omega) hr ha
theorem rds_add (sc : List Int) (n : Nat) : ∀ (d e a : Nat) (s : St), rds n sc (d + e) a s = rds n sc e (a + d) (rds n sc d a s)
 | 0, e, a, s => by rw [Nat.zero_add]; rfl
 | d + 1, e, a, s => by
  rw [show d + 1 + e = (d + e) + 1 by omega, rds, rds, rds_add sc n d e (a + 1), show a + 1 + d = a + (d + 1) by omega]
end
theorem run_rds {N : List S48} {G P : List Int} {L : List (List S76)} (hL : Lim N G P) (hs : Small L) (sc : List Int) {k : Nat} (hk : 500 ≤ k) {s : St} (he : s = rds L.length sc (sc.length + tot L) 0 (start N G P L)) :
  calls_Run.f k N G P L sc = some (s.N, s.G, s.P, s.ones.map One.ended, s.ev) := by
 have g0 := start_good hL L
 have h1 := script_rds hs hk sc sc 0 g0 rfl
 have g1 := rds_good (L := L) sc sc.length 0 g0
 have h2 := last_rds hs hk sc (r := tot L) (a := sc.length) g1 (by omega) (Nat.le_refl _)
 rw [rds_add, Nat.zero_add] at he
 unfold calls_Run.f
 rw [if_pos hL.lim3, if_neg]
 ·unfold runS
  have h1' : scriptO k L.length sc ⟨N, G, P, [], L.map mkOne⟩ = _ := h1
  rw [h1']
  simp only [Option.bind_some]
  rw [h2, ← he]
  rfl
 ·rintro (h | h)
  ·have := hs.1; omega
  ·obtain ⟨x, hx, hm⟩ := List.any_eq_true.1 h
   obtain ⟨i, hi, rfl⟩ := List.getElem_of_mem hx
   have := hs.2 i hi
   rw [List.getD_eq_getElem?_getD, List.getElem?_eq_getElem hi] at this
   unfold manyB at hm
   simp at hm this
   omega
def farL (s : St) : List Int := s.ones.map fun o => ((rank o : Nat) : Int)
section
variable {L : List (List S76)} {s : St} {sc : List Int}
theorem rd_far (g : Good L s) {i : Nat} (hi : i < L.length) : rd (farL s) (i : Int) = ((rank (nth s i) : Nat) : Int) := by
 have := g.il hi
 unfold rd farL nth
 simp [List.getD_eq_getElem?_getD, List.getElem?_map, List.getElem?_eq_getElem this]
theorem rd_len (i : Nat) : rd_L5 L (i : Int) = L.getD i [] := by simp [rd_L5]
theorem farL_len (g : Good L s) : (farL s).length = L.length := by unfold farL; rw [List.length_map, g.len]
theorem picked_l0 (g : Good L s) (hs : Small L) : ∀ (d i k : Nat), i + d = L.length → d < k → roadbookref20_picked.l0 k L (farL s) (i : Int) = some (pickI (fl s d i))
 | 0, i, k, hd, hk => by
  obtain ⟨k, rfl⟩ : ∃ j, k = j + 1 := ⟨k - 1, by omega⟩
  rw [roadbookref20_picked.l0, if_neg (by omega)]; rfl
 | d + 1, i, k, hd, hk => by
  obtain ⟨k, rfl⟩ : ∃ j, k = j + 1 := ⟨k - 1, by omega⟩
  have hi : i < L.length := by omega
  have h1 := hs.2 i hi
  have h2 := hs.1
  have h3 := g.left_rank hi
  rw [roadbookref20_picked.l0, if_pos (by omega), if_pos (by omega), if_pos (by rw [farL_len g]; omega), rd_far g hi, rd_len i, wrap_in (by omega) (by omega), fl]
  by_cases hl : left s i
  ·rw [if_pos (by have := h3.1 hl; omega), if_pos hl]; rfl
  ·rw [if_neg (by have := mt h3.2 hl; omega), if_neg hl, up1 (by omega)]
   exact picked_l0 g hs d (i + 1) k (by omega) (by omega)
theorem picked_k (g : Good L s) (hs : Small L) {a : Nat} {k : Nat} (hk : 100 ≤ k) : roadbookref20_picked.f k L (farL s) sc (a : Int) = some (pickI (pickN L.length s sc a)) := by
 have hL := hs.1
 unfold roadbookref20_picked.f pickN
 by_cases ha : a < sc.length
 ·have hr : rd sc (a : Int) = sc.getD a 0 := by simp [rd]
  rw [if_pos (by omega), if_pos (by omega), if_pos ha, hr]
  obtain ⟨k, rfl⟩ : ∃ j, k = j + 1 := ⟨k - 1, by omega⟩
  obtain ⟨x, hx⟩ : ∃ x, x = sc.getD a 0 := ⟨_, rfl⟩
  rw [← hx] at hr ⊢
  by_cases h0 : x < 0
  ·rw [if_pos h0, roadbookref20_picked.j0, if_pos rfl, if_neg (by omega)]; rfl
  ·rw [if_neg h0, roadbookref20_picked.j0]
   by_cases hn : L.length = 0
   ·rw [if_pos (by simp [hn]), if_neg (by omega)]; rfl
   ·rw [if_neg (by simp [hn]), if_pos (by omega), if_pos (by omega), if_neg (by omega), hr, if_pos (show 0 ≤ x ∧ 0 < L.length by omega)]
    obtain ⟨m, hm⟩ : ∃ m, m = x.toNat % L.length := ⟨_, rfl⟩
    have hmod : x.tmod (L.length : Int) = (m : Int) := by
     rw [hm, Int.tmod_eq_emod_of_nonneg (by omega), Int.natCast_emod, Int.toNat_of_nonneg (by omega)]
    have hml : m < L.length := by rw [hm]; exact Nat.mod_lt _ (by omega)
    have h1 := hs.2 m hml
    have h3 := g.left_rank hml
    rw [hmod, ← hm, if_pos (by omega), if_pos (by rw [farL_len g]; omega), if_pos (by omega), rd_far g hml, rd_len m, wrap_in (by omega) (by omega)]
    by_cases hl : left s m
    ·rw [if_neg (by have := h3.1 hl; omega), if_pos hl]; rfl
    ·rw [if_pos (by have := mt h3.2 hl; omega), if_neg hl]; rfl
 ·rw [if_neg (by omega), if_neg ha]
  exact picked_l0 g hs L.length 0 k (by omega) (by omega)
end
end Go.Proofs.Ytkidnomkfdnciaa.Pure
namespace Go.Proofs.Ytkidnomkfdnciaa.All
open Go.RowKit Go.Proofs.Ytkidnomkfdnciaa.Pure Go.Proofs.YtkidnomkfdnciaaW.PrintWords Go.Proofs.YtkidnomkfdnciaaW.PrintLast Go.Proofs.YtkidnomkfdnciaaW.PrintMore
set_option linter.unusedVariables false
set_option linter.unusedSimpArgs false
section
variable {P : Program} {ops : Array Oper} {Q : Exit → Act → World → Prop} {rest : List Oper} {o : Oper} {a : Act} {W : World}
theorem makeL_ (hgd : o.guard = none) {N : Tmp} (hd : o.dst = some N) (t e : TypeId) (x y : Operand) (ho : o.op = .makeSlice t x y) (n : Nat) (hx : a.eval x = .int .i64 n) (hy : a.eval y = .int .i64 n) (ht : P.underlying t = some (.slice e)) (z : Value) (sz bytes : Nat)
  (hinfo : (P.info? e).map (fun i => (i.zero, i.size, i.bytes)) = some (some z, sz, bytes)) (hb0 : 0 < bytes) (hl : n * bytes ≤ 281474976710656)
  (h : wpList P ops Q rest (a.put (some N) (.slice (some ⟨W.heap.size, 0, none⟩) n n)) (W.alloc (.cells (madeCells z.cells (n * sz)) e))) : wpList P ops Q (o :: rest) a W := by
 obtain ⟨i0, hi, hzz⟩ := Option.map_eq_some_iff.1 hinfo
 simp only [Prod.mk.injEq] at hzz
 obtain ⟨hz0, hz1, hz2⟩ := hzz
 have hm : n ≤ 281474976710656 := Nat.le_trans (Nat.le_mul_of_pos_right _ hb0) hl
 have hr := run_make (P := P) W t e i0 z ht hi hz0 .i64 .i64 (n : Int) (n : Int) (by omega) (by omega)
  (by
   have h3 : ((i0.bytes * n : Nat) : Int) ≤ 281474976710656 := by rw [hz2, Nat.mul_comm]; omega
   rwa [Int.natCast_mul] at h3) (by omega)
 simp only [Int.toNat_natCast] at hr
 rw [hz1] at hr
 refine wpList_plain hgd fun K hK => ?_
 have hrun : (execOp a.eval o).run P W = .ok (.value (.slice (some ⟨W.heap.size, 0, none⟩) n n)) (W.alloc (.cells (madeCells z.cells (n * sz)) e)) := by
  simp [execOp, ho, hx, hy, hr]
 unfold Oper.wp
 rw [hrun]
 show K (a.put o.dst _) _
 rw [hd]
 exact hK _ _ h
end
theorem made1 (v : Value) {m i : Nat} (h : i < m) : (madeCells #[v] m)[i]? = some v := by
 have h0 : i % 1 = 0 := by omega
 simp [madeCells, h, h0]
theorem made2 (v : Value) {m i : Nat} (h : i < m) : (madeCells #[v, v] m)[i]? = some v := by
 rcases Nat.mod_two_eq_zero_or_one i with h0 | h0 <;> simp [madeCells, h, h0]
def ownR (b n : Nat) (vE : Value) (vD : Nat → Value) (k : Nat) : Prop := (b ≤ k ∧ k ≤ b + 4) ∨ some k = vE.ownBlock ∨ ∃ j, j < n ∧ some k = (vD j).ownBlock
structure RBox (w W : World) (n : Nat) (AN : Option Addr) (cN : Nat) (N : List S48) (AG : Option Addr) (cG : Nat) (G : List Int) (AP : Option Addr) (cP : Nat) (P : List Int) (vE : Value) (vD : Nat → Value) (ev : List S68) (F : Nat → Int) (B : Nat → S73) (E : Nat → List S73) : Prop where
 bel : Below w.heap.size w W
 box : MBox W w.heap.size AN cN N AG cG G AP cP P
 res : W.heap[w.heap.size + 1]? = some (.cells #[.slice none 0 0, .slice none 0 0, .slice none 0 0] 38 (0, 0))
 hf : ∃ cs, W.heap[w.heap.size + 2]? = some (.cells cs 3 (0, 0))
 hb : ∃ cs, W.heap[w.heap.size + 3]? = some (.cells cs 73 (0, 0))
 ho : ∃ cs, W.heap[w.heap.size + 4]? = some (.cells cs 71 (0, 0))
 far : ∀ j, j < n → W.cell? ⟨w.heap.size + 2, j, none⟩ = some (.int .i64 (F j))
 bg : ∀ j, j < n → W.cell? ⟨w.heap.size + 3, j * 2, none⟩ = some (.int .i64 (B j).f0)
 be : ∀ j, j < n → W.cell? ⟨w.heap.size + 3, j * 2 + 1, none⟩ = some (.int .i64 (B j).f1)
 out : ∀ j, j < n → W.cell? ⟨w.heap.size + 4, j, none⟩ = some (vD j)
 d : ∀ j, j < n → Kd.R k73 73 W w.heap.size (tight (vD j)) (vD j) (E j)
 fresh : ∀ j, j < n → ∀ k, some k = (vD j).ownBlock → w.heap.size + 4 < k
 dd : ∀ a b, a < n → b < n → a ≠ b → ∀ k, some k = (vD a).ownBlock → some k ≠ (vD b).ownBlock
 ev : Kd.R k68 68 W w.heap.size (tight vE) vE ev
 fe : ∀ k, some k = vE.ownBlock → w.heap.size + 4 < k
 mem : MemoAt W AN cN N AG cG G AP cP P
 off : MOff AN N AG G AP P (ownR w.heap.size n vE vD)
section
variable {w W W' w1 w2 w3 : World} {n : Nat} {AN AG AP AN' AG' AP' : Option Addr} {cN cG cP cN' cG' cP' : Nat} {N N' : List S48} {G P G' P' : List Int} {vE vE' : Value} {vD vD' : Nat → Value} {ev ev' : List S68} {F F' : Nat → Int} {B B' : Nat → S73} {E E' : Nat → List S73} {bs : List Nat}
theorem cell_mv {p : Addr} {v : Value} (h : W.cell? p = some v) (i : Mv W W' bs) (hn : p.block ∉ bs) : W'.cell? p = some v :=
 (World.cell?_of_block (w := W) (w' := W') (i.mv _ (World.block_lt_of_cell? W p h) (fun b hb e => hn (e ▸ hb)))).trans h
theorem RBox.congr (h : RBox w W n AN cN N AG cG G AP cP P vE vD ev F B E) (hF : ∀ j, j < n → F' j = F j) (hB : ∀ j, j < n → B' j = B j) (hE : ∀ j, j < n → E' j = E j) : RBox w W n AN cN N AG cG G AP cP P vE vD ev F' B' E' :=
 ⟨h.bel, h.box, h.res, h.hf, h.hb, h.ho, fun j hj => by rw [hF j hj]; exact h.far j hj, fun j hj => by rw [hB j hj]; exact h.bg j hj, fun j hj => by rw [hB j hj]; exact h.be j hj, h.out, fun j hj => by rw [hE j hj]; exact h.d j hj, h.fresh, h.dd, h.ev, h.fe, h.mem, h.off⟩
theorem RBox.mv (h : RBox w W n AN cN N AG cG G AP cP P vE vD ev F B E) (i : Mv W W' bs) (hbs : ∀ b, b ∈ bs → w.heap.size + 4 < b ∧ some b ≠ vE.ownBlock ∧ ∀ j, j < n → some b ≠ (vD j).ownBlock) (ho : MOff AN N AG G AP P (fun k => k ∈ bs)) : RBox w W' n AN cN N AG cG G AP cP P vE vD ev F B E := by
 have ne : ∀ k, k ≤ w.heap.size + 4 → ∀ b, b ∈ bs → k ≠ b := fun k hk b hb e => by have := (hbs b hb).1; omega
 have nm : ∀ k, k ≤ w.heap.size + 4 → k ∉ bs := fun k hk hb => ne k hk k hb rfl
 obtain ⟨f, hf⟩ := h.hf
 obtain ⟨b, hb⟩ := h.hb
 obtain ⟨o, ho'⟩ := h.ho
 exact ⟨wX h.bel i (fun b hb => by have := (hbs b hb).1; omega), blk_mv h.box i (ne _ (by omega)), blk_mv h.res i (ne _ (by omega)), ⟨f, blk_mv hf i (ne _ (by omega))⟩, ⟨b, blk_mv hb i (ne _ (by omega))⟩, ⟨o, blk_mv ho' i (ne _ (by omega))⟩,
  fun j hj => cell_mv (h.far j hj) i (nm _ (by show w.heap.size + 2 ≤ _; omega)), fun j hj => cell_mv (h.bg j hj) i (nm _ (by show w.heap.size + 3 ≤ _; omega)), fun j hj => cell_mv (h.be j hj) i (nm _ (by show w.heap.size + 3 ≤ _; omega)), fun j hj => cell_mv (h.out j hj) i (nm _ (by show w.heap.size + 4 ≤ _; omega)),
  fun j hj => R_mv (h.d j hj) i (fun b hb => (hbs b hb).2.2 j hj), h.fresh, h.dd, R_mv h.ev i (fun b hb => (hbs b hb).2.1), h.fe, h.mem.mv i ho, h.off⟩
theorem RBox.below (h : RBox w W n AN cN N AG cG G AP cP P vE vD ev F B E) (hb : Below W.heap.size W W') : RBox w W' n AN cN N AG cG G AP cP P vE vD ev F B E :=
 h.mv (Mv.of_below hb) (fun b hb => absurd hb List.not_mem_nil) ⟨fun _ _ _ hk => List.not_mem_nil hk, fun _ _ _ hk => List.not_mem_nil hk, fun _ _ _ hk => List.not_mem_nil hk⟩
theorem RBox.lt (h : RBox w W n AN cN N AG cG G AP cP P vE vD ev F B E) : w.heap.size + 4 < W.heap.size := by
 obtain ⟨o, ho⟩ := h.ho
 exact blk_lt ho
theorem RBox.new (h : MemoAt w AN cN N AG cG G AP cP P) (n : Nat) : RBox w (((((w.alloc (.cells #[.slice AN N.length cN, .slice AG G.length cG, .slice AP P.length cP] 38)).alloc (.cells #[.slice none 0 0, .slice none 0 0, .slice none 0 0] 38)).alloc (.cells (madeCells #[.int .i64 0] (n * 1)) 3)).alloc (.cells (madeCells #[.int .i64 0, .int .i64 0] (n * 2)) 73)).alloc (.cells (madeCells #[.slice none 0 0] (n * 1)) 71)) n AN cN N AG cG G AP cP P (.slice none 0 0) (fun _ => .slice none 0 0) [] (fun _ => 0) (fun _ => ⟨0, 0⟩) (fun _ => []) := by
 obtain ⟨hx, hz, hb⟩ := res_new w AN cN N AG cG G AP cP P
 obtain ⟨W0, h0⟩ : ∃ W0, W0 = (w.alloc (.cells #[.slice AN N.length cN, .slice AG G.length cG, .slice AP P.length cP] 38)).alloc (.cells #[.slice none 0 0, .slice none 0 0, .slice none 0 0] 38) := ⟨_, rfl⟩
 have hs : W0.heap.size = w.heap.size + 2 := by rw [h0, rfl_size]
 rw [← h0] at hx hz hb ⊢
 obtain ⟨W1, h1⟩ : ∃ W1, W1 = W0.alloc (.cells (madeCells #[.int .i64 0] (n * 1)) 3) := ⟨_, rfl⟩
 have hs1 : W1.heap.size = w.heap.size + 3 := by rw [h1, alloc_size1, hs]
 have b1 : Below W0.heap.size W0 W1 := by rw [h1]; exact below_alloc (Below.refl _ _) _
 have n1 : W1.heap[w.heap.size + 2]? = some (.cells (madeCells #[.int .i64 0] (n * 1)) 3 (0, 0)) := by rw [h1, ← hs]; exact heap_alloc_new _ _
 rw [← h1]
 obtain ⟨W2, h2⟩ : ∃ W2, W2 = W1.alloc (.cells (madeCells #[.int .i64 0, .int .i64 0] (n * 2)) 73) := ⟨_, rfl⟩
 have hs2 : W2.heap.size = w.heap.size + 4 := by rw [h2, alloc_size1, hs1]
 have b2 : Below W1.heap.size W1 W2 := by rw [h2]; exact below_alloc (Below.refl _ _) _
 have n2 : W2.heap[w.heap.size + 3]? = some (.cells (madeCells #[.int .i64 0, .int .i64 0] (n * 2)) 73 (0, 0)) := by rw [h2, ← hs1]; exact heap_alloc_new _ _
 rw [← h2]
 obtain ⟨W3, h3⟩ : ∃ W3, W3 = W2.alloc (.cells (madeCells #[.slice none 0 0] (n * 1)) 71) := ⟨_, rfl⟩
 have b3 : Below W2.heap.size W2 W3 := by rw [h3]; exact below_alloc (Below.refl _ _) _
 have n3 : W3.heap[w.heap.size + 4]? = some (.cells (madeCells #[.slice none 0 0] (n * 1)) 71 (0, 0)) := by rw [h3, ← hs2]; exact heap_alloc_new _ _
 rw [← h3]
 have b02 := b1.trans (b2.mono b1.size)
 have b03 := b02.trans (b3.mono b02.size)
 have n1' := blk_below (blk_below n1 b2) b3
 have n2' := blk_below n2 b3
 have hbw := below_then hb hb.size b03
 refine ⟨hbw, hx.below b03, blk_below hz b03, ⟨_, n1'⟩, ⟨_, n2'⟩, ⟨_, n3⟩, fun j hj => (blk_cell n1' j).trans (made1 _ (by omega)), fun j hj => (blk_cell n2' (j * 2)).trans (made2 _ (by omega)), fun j hj => (blk_cell n2' (j * 2 + 1)).trans (made2 _ (by omega)), fun j hj => (blk_cell n3 j).trans (made1 _ (by omega)), fun j hj => Kd.R_nil _ _ _ _ _, fun j hj k hk => (by cases hk), fun a b _ _ _ k hk => (by cases hk), Kd.R_nil _ _ _ _ _, fun k hk => (by cases hk), h.below hbw, h.lt.mono (fun k hk => ?_)⟩
 rcases hk with hk | hk | ⟨_, _, hk⟩
 ·exact hk.1
 ·cases hk
 ·cases hk
theorem RBox.farC (h : RBox w W n AN cN N AG cG G AP cP P vE vD ev F B E) {l : List Int} (hl : l.length = n) (hm : n ≤ 1000) (he : ∀ j, j < n → l.getD j 0 = F j) : Kd.C (Kd.int .i64) W (some ⟨w.heap.size + 2, 0, none⟩) n l := by
 refine ⟨hl, by show n ≤ 9223372036854775807; omega, fun _ => ⟨_, rfl, fun j y hj => ?_⟩⟩
 obtain ⟨hj1, hj2⟩ := List.getElem?_eq_some_iff.1 hj
 refine ⟨[.int .i64 y], rfl, rfl, fun i u hi => ?_⟩
 have hi0 : i = 0 := by
  rcases i with _ | i
  ·rfl
  ·simp at hi
 subst hi0
 obtain rfl : Value.int .i64 y = u := by simpa using hi
 have := h.far j (by omega)
 rw [← he j (by omega), List.getD_eq_getElem?_getD, hj] at this
 have e : (⟨w.heap.size + 2, 0, none⟩ : Addr).add (j * (Kd.int .i64).sz + 0) = ⟨w.heap.size + 2, j, none⟩ := by
  have e2 : j * (Kd.int .i64).sz + 0 = j := by show j * 1 + 0 = j; omega
  rw [e2]
  unfold Addr.add
  split
  ·rename_i h0; rw [h0]
  ·simp
 rw [e]
 exact this
theorem RBox.base (hbel : Below w.heap.size w W) (hres : W.heap[w.heap.size + 1]? = some (.cells #[.slice none 0 0, .slice none 0 0, .slice none 0 0] 38 (0, 0))) (hd : ∀ j, j < n → Kd.R k73 73 W w.heap.size (tight (vD j)) (vD j) (E j)) (hfr : ∀ j, j < n → ∀ k, some k = (vD j).ownBlock → w.heap.size + 4 < k)
  (hdd : ∀ a b, a < n → b < n → a ≠ b → ∀ k, some k = (vD a).ownBlock → some k ≠ (vD b).ownBlock) (hev : Kd.R k68 68 W w.heap.size (tight vE) vE ev) (hfe : ∀ k, some k = vE.ownBlock → w.heap.size + 4 < k) (hm : MemoAt W AN cN N AG cG G AP cP P) (hoff : MOff AN N AG G AP P (ownR w.heap.size n vE vD))
  (i : Mv W W' bs) (hbs : ∀ b, b ∈ bs → w.heap.size ≤ b ∧ b ≤ w.heap.size + 4 ∧ b ≠ w.heap.size + 1) (box : MBox W' w.heap.size AN cN N AG cG G AP cP P) (hf : ∃ cs, W'.heap[w.heap.size + 2]? = some (.cells cs 3 (0, 0))) (hb : ∃ cs, W'.heap[w.heap.size + 3]? = some (.cells cs 73 (0, 0))) (ho : ∃ cs, W'.heap[w.heap.size + 4]? = some (.cells cs 71 (0, 0)))
  (far : ∀ j, j < n → W'.cell? ⟨w.heap.size + 2, j, none⟩ = some (.int .i64 (F j))) (bg : ∀ j, j < n → W'.cell? ⟨w.heap.size + 3, j * 2, none⟩ = some (.int .i64 (B j).f0)) (be : ∀ j, j < n → W'.cell? ⟨w.heap.size + 3, j * 2 + 1, none⟩ = some (.int .i64 (B j).f1)) (out : ∀ j, j < n → W'.cell? ⟨w.heap.size + 4, j, none⟩ = some (vD j)) :
  RBox w W' n AN cN N AG cG G AP cP P vE vD ev F B E :=
 ⟨wX hbel i (fun b hb => (hbs b hb).1), box, blk_mv hres i (fun b hb e => (hbs b hb).2.2 e.symm), hf, hb, ho, far, bg, be, out, fun j hj => R_mv (hd j hj) i (fun b hb e => by have := hfr j hj b e; have := (hbs b hb).2.1; omega), hfr, hdd, R_mv hev i (fun b hb e => by have := hfe b e; have := (hbs b hb).2.1; omega), hfe, hm.mv i (hoff.mono (fun k hk => .inl ⟨(hbs k hk).1, (hbs k hk).2.1⟩)), hoff⟩
theorem blk_ex {b k : Nat} {v : Value} {t : TypeId} {j : Nat} (h : ∃ cs, W.heap[b]? = some (.cells cs t (0, 0))) : ∃ cs, (W.setCell ⟨k, j, none⟩ v).heap[b]? = some (.cells cs t (0, 0)) := by
 obtain ⟨cs, h⟩ := h
 by_cases e : b = k
 ·subst e; exact ⟨_, blk_put h j v rfl⟩
 ·exact ⟨cs, (Below.heap_setCell _ _ _ _ e).trans h⟩
theorem cell_put {p q : Addr} {v u : Value} (h : W.cell? p = some v) (hne : q ≠ p) : (W.setCell q u).cell? p = some v := (World.cell?_setCell_other _ _ _ _ hne).trans h
theorem cell_new {b j : Nat} {v u : Value} (h : W.cell? ⟨b, j, none⟩ = some v) : (W.setCell ⟨b, j, none⟩ u).cell? ⟨b, j, none⟩ = some u := World.cell?_setCell_same _ _ _ h
theorem at_ne {b b' j j' : Nat} (h : b ≠ b' ∨ j ≠ j') : (⟨b, j, none⟩ : Addr) ≠ ⟨b', j', none⟩ := by
 intro e
 injection e with e1 e2
 rcases h with h | h
 ·exact h e1
 ·exact h e2
theorem RBox.farput (h : RBox w W n AN cN N AG cG G AP cP P vE vD ev F B E) {i : Nat} (hi : i < n) (x : Int) : RBox w (W.setCell ⟨w.heap.size + 2, i, none⟩ (.int .i64 x)) n AN cN N AG cG G AP cP P vE vD ev (fun j => if j = i then x else F j) B E := by
 refine RBox.base h.bel h.res h.d h.fresh h.dd h.ev h.fe h.mem h.off (bs := [w.heap.size + 2]) inferInstance (fun b hb => ?_) ((Below.heap_setCell _ _ _ _ (by show w.heap.size ≠ w.heap.size + 2; omega)).trans h.box) (blk_ex h.hf) (blk_ex h.hb) (blk_ex h.ho) (fun j hj => ?_) (fun j hj => cell_put (h.bg j hj) (at_ne (.inl (by omega)))) (fun j hj => cell_put (h.be j hj) (at_ne (.inl (by omega)))) (fun j hj => cell_put (h.out j hj) (at_ne (.inl (by omega))))
 ·simp at hb; omega
 ·by_cases e : j = i
  ·subst e; rw [if_pos rfl]; exact cell_new (h.far j hj)
  ·rw [if_neg e]; exact cell_put (h.far j hj) (at_ne (.inr (Ne.symm e)))
theorem RBox.backput (h : RBox w W n AN cN N AG cG G AP cP P vE vD ev F B E) {i : Nat} (hi : i < n) (x y : Int) : RBox w ((W.setCell ⟨w.heap.size + 3, i * 2, none⟩ (.int .i64 x)).setCell ⟨w.heap.size + 3, i * 2 + 1, none⟩ (.int .i64 y)) n AN cN N AG cG G AP cP P vE vD ev F (fun j => if j = i then ⟨x, y⟩ else B j) E := by
 refine RBox.base h.bel h.res h.d h.fresh h.dd h.ev h.fe h.mem h.off (bs := [w.heap.size + 3, w.heap.size + 3]) inferInstance (fun b hb => ?_) ((Below.heap_setCell _ _ _ _ (by show w.heap.size ≠ w.heap.size + 3; omega)).trans ((Below.heap_setCell _ _ _ _ (by show w.heap.size ≠ w.heap.size + 3; omega)).trans h.box)) (blk_ex (blk_ex h.hf)) (blk_ex (blk_ex h.hb)) (blk_ex (blk_ex h.ho)) (fun j hj => cell_put (cell_put (h.far j hj) (at_ne (.inl (by omega)))) (at_ne (.inl (by omega)))) (fun j hj => ?_) (fun j hj => ?_) (fun j hj => cell_put (cell_put (h.out j hj) (at_ne (.inl (by omega)))) (at_ne (.inl (by omega))))
 ·simp at hb; omega
 ·by_cases e : j = i
  ·subst e; rw [if_pos rfl]; exact cell_put (cell_new (h.bg j hj)) (at_ne (.inr (by omega)))
  ·rw [if_neg e]; exact cell_put (cell_put (h.bg j hj) (at_ne (.inr (by omega)))) (at_ne (.inr (by omega)))
 ·by_cases e : j = i
  ·subst e; rw [if_pos rfl]; exact cell_new (cell_put (h.be j hj) (at_ne (.inr (by omega))))
  ·rw [if_neg e]; exact cell_put (cell_put (h.be j hj) (at_ne (.inr (by omega)))) (at_ne (.inr (by omega)))
theorem RBox.boxput (h : RBox w W n AN cN N AG cG G AP cP P vE vD ev F B E) (hm : MemoAt W AN' cN' N' AG' cG' G' AP' cP' P') (hoff : MOff AN' N' AG' G' AP' P' (ownR w.heap.size n vE vD)) :
  RBox w (((W.setCell ⟨w.heap.size, 0, none⟩ (.slice AN' N'.length cN')).setCell ⟨w.heap.size, 1, none⟩ (.slice AG' G'.length cG')).setCell ⟨w.heap.size, 2, none⟩ (.slice AP' P'.length cP')) n AN' cN' N' AG' cG' G' AP' cP' P' vE vD ev F B E := by
 have c3 : ∀ {p : Addr} {v : Value}, W.cell? p = some v → p.block ≠ w.heap.size → (((W.setCell ⟨w.heap.size, 0, none⟩ (.slice AN' N'.length cN')).setCell ⟨w.heap.size, 1, none⟩ (.slice AG' G'.length cG')).setCell ⟨w.heap.size, 2, none⟩ (.slice AP' P'.length cP')).cell? p = some v := fun h hn => cell_mv (bs := [w.heap.size, w.heap.size, w.heap.size]) h inferInstance (by simp [hn])
 refine RBox.base h.bel h.res h.d h.fresh h.dd h.ev h.fe hm hoff (bs := [w.heap.size, w.heap.size, w.heap.size]) inferInstance (fun b hb => ?_) (blk_put (blk_put (blk_put h.box 0 _ rfl) 1 _ rfl) 2 _ rfl) (blk_ex (blk_ex (blk_ex h.hf))) (blk_ex (blk_ex (blk_ex h.hb))) (blk_ex (blk_ex (blk_ex h.ho))) (fun j hj => c3 (h.far j hj) (by show w.heap.size + 2 ≠ _; omega)) (fun j hj => c3 (h.bg j hj) (by show w.heap.size + 3 ≠ _; omega)) (fun j hj => c3 (h.be j hj) (by show w.heap.size + 3 ≠ _; omega)) (fun j hj => c3 (h.out j hj) (by show w.heap.size + 4 ≠ _; omega))
 simp at hb; omega
theorem ownR_up {k : Nat} (hk : ownR w.heap.size n vE' vD k) (h4 : vE'.ownBlock = vE.ownBlock ∨ ∃ b, vE'.ownBlock = some b ∧ W.heap.size ≤ b) : ownR w.heap.size n vE vD k ∨ W.heap.size ≤ k := by
 rcases hk with hk | hk | hk
 ·exact .inl (.inl hk)
 ·rcases h4 with h4 | ⟨b, h4, hb⟩
  ·exact .inl (.inr (.inl (hk.trans h4)))
  ·rw [h4] at hk; cases hk; exact .inr hb
 ·exact .inl (.inr (.inr hk))
theorem MOff.or {b b' : Nat → Prop} (h : MOff AN N AG G AP P b) (h' : MOff AN N AG G AP P b') : MOff AN N AG G AP P (fun k => b k ∨ b' k) :=
 ⟨fun hn ad e hk => hk.elim (h.n hn ad e) (h'.n hn ad e), fun hn ad e hk => hk.elim (h.g hn ad e) (h'.g hn ad e), fun hn ad e hk => hk.elim (h.p hn ad e) (h'.p hn ad e)⟩
theorem RBox.grow (h : RBox w W n AN cN N AG cG G AP cP P vE vD ev F B E) (h1 : Kd.R k68 68 W' w.heap.size (fun _ => True) vE' ev') (h2 : Below w.heap.size w W') (h3 : W.grownBy W' vE.ownBlock) (h4 : vE'.ownBlock = vE.ownBlock ∨ ∃ b, vE'.ownBlock = some b ∧ W.heap.size ≤ b) : RBox w W' n AN cN N AG cG G AP cP P vE' vD ev' F B E := by
 have i : Mv W W' vE.ownBlock.toList := Mv.of_grown h3
 have ne : ∀ k, k ≤ w.heap.size + 4 → ∀ b, b ∈ vE.ownBlock.toList → k ≠ b := fun k hk b hb e => by have := h.fe b (mem_own hb); omega
 have nm : ∀ k, k ≤ w.heap.size + 4 → k ∉ vE.ownBlock.toList := fun k hk hb => ne k hk k hb rfl
 obtain ⟨f, hf⟩ := h.hf
 obtain ⟨b, hb⟩ := h.hb
 obtain ⟨o, ho'⟩ := h.ho
 have hlt := h.lt
 exact ⟨h2, blk_mv h.box i (ne _ (by omega)), blk_mv h.res i (ne _ (by omega)), ⟨f, blk_mv hf i (ne _ (by omega))⟩, ⟨b, blk_mv hb i (ne _ (by omega))⟩, ⟨o, blk_mv ho' i (ne _ (by omega))⟩,
  fun j hj => cell_mv (h.far j hj) i (nm _ (by show w.heap.size + 2 ≤ _; omega)), fun j hj => cell_mv (h.bg j hj) i (nm _ (by show w.heap.size + 3 ≤ _; omega)), fun j hj => cell_mv (h.be j hj) i (nm _ (by show w.heap.size + 3 ≤ _; omega)), fun j hj => cell_mv (h.out j hj) i (nm _ (by show w.heap.size + 4 ≤ _; omega)),
  fun j hj => R_mv (h.d j hj) i (fun b hb e => R_apart (h.d j hj) h.ev (by decide) b e (mem_own hb)), h.fresh, h.dd, R_tight' rfl h1, fun k hk => by
   rcases h4 with h4 | ⟨b, h4, hb⟩
   ·exact h.fe k (hk.trans h4)
   ·rw [h4] at hk; cases hk; omega,
  h.mem.mv i (h.off.mono (fun k hk => .inr (.inl (mem_own hk)))), (h.off.or h.mem.lt).mono (fun k hk => ownR_up hk h4)⟩
theorem RBox.outgrow (h : RBox w W n AN cN N AG cG G AP cP P vE vD ev F B E) {i : Nat} (hi : i < n) {v1 : Value} {l : List S73} (h1 : Kd.R k73 73 W' w.heap.size (fun _ => True) v1 l) (h2 : Below w.heap.size w W') (h3 : W.grownBy W' (vD i).ownBlock) (h4 : v1.ownBlock = (vD i).ownBlock ∨ ∃ b, v1.ownBlock = some b ∧ W.heap.size ≤ b) :
  RBox w (W'.setCell ⟨w.heap.size + 4, i, none⟩ v1) n AN cN N AG cG G AP cP P vE (fun j => if j = i then v1 else vD j) ev F B (fun j => if j = i then l else E j) := by
 have mv : Mv W W' (vD i).ownBlock.toList := Mv.of_grown h3
 have ne : ∀ k, k ≤ w.heap.size + 4 → ∀ b, b ∈ (vD i).ownBlock.toList → k ≠ b := fun k hk b hb e => by have := h.fresh i hi b (mem_own hb); omega
 have nm : ∀ k, k ≤ w.heap.size + 4 → k ∉ (vD i).ownBlock.toList := fun k hk hb => ne k hk k hb rfl
 obtain ⟨f, hf⟩ := h.hf
 obtain ⟨b, hb⟩ := h.hb
 obtain ⟨o, ho'⟩ := h.ho
 have hlt := h.lt
 have new : ∀ k, some k = v1.ownBlock → some k = (vD i).ownBlock ∨ W.heap.size ≤ k := fun k hk => by
  rcases h4 with h4 | ⟨b, h4, hb⟩
  ·exact .inl (hk.trans h4)
  ·rw [h4] at hk; cases hk; exact .inr hb
 refine RBox.base (bs := [w.heap.size + 4]) (W := W') h2 (blk_mv h.res mv (ne _ (by omega))) (fun j hj => ?_) (fun j hj k hk => ?_) (fun a b ha hb hab k hk => ?_) (R_mv h.ev mv (fun b hb e => R_apart h.ev (h.d i hi) (by decide) b e (mem_own hb))) h.fe (h.mem.mv mv (h.off.mono (fun k hk => .inr (.inr ⟨i, hi, mem_own hk⟩)))) ((h.off.or h.mem.lt).mono (fun k hk => ?_)) inferInstance (fun b hb => ?_)
  ((Below.heap_setCell _ _ _ _ (by show w.heap.size ≠ w.heap.size + 4; omega)).trans (blk_mv h.box mv (ne _ (by omega)))) (blk_ex ⟨f, blk_mv hf mv (ne _ (by omega))⟩) (blk_ex ⟨b, blk_mv hb mv (ne _ (by omega))⟩) (blk_ex ⟨o, blk_mv ho' mv (ne _ (by omega))⟩)
  (fun j hj => cell_put (cell_mv (h.far j hj) mv (nm _ (by show w.heap.size + 2 ≤ _; omega))) (at_ne (.inl (by omega)))) (fun j hj => cell_put (cell_mv (h.bg j hj) mv (nm _ (by show w.heap.size + 3 ≤ _; omega))) (at_ne (.inl (by omega)))) (fun j hj => cell_put (cell_mv (h.be j hj) mv (nm _ (by show w.heap.size + 3 ≤ _; omega))) (at_ne (.inl (by omega)))) (fun j hj => ?_)
 ·by_cases e : j = i
  ·simp only [if_pos e]; exact R_tight' rfl h1
  ·simp only [if_neg e]; exact R_mv (h.d j hj) mv (fun b hb e2 => h.dd j i hj hi e b e2 (mem_own hb))
 ·by_cases e : j = i
  ·simp only [if_pos e] at hk
   rcases new k hk with hk | hk
   ·exact h.fresh i hi k hk
   ·omega
  ·simp only [if_neg e] at hk; exact h.fresh j hj k hk
 ·by_cases ea : a = i
  ·have eb : ¬ b = i := fun e => hab (ea.trans e.symm)
   simp only [if_pos ea, if_neg eb] at hk ⊢
   intro hk2
   rcases new k hk with hk | hk
   ·exact h.dd i b hi hb (fun e => eb e.symm) k hk hk2
   ·have := own_lt (h.d b hb) hk2; omega
  ·by_cases eb : b = i
   ·simp only [if_neg ea, if_pos eb] at hk ⊢
    intro hk2
    rcases new k hk2 with hk2 | hk2
    ·exact h.dd a i ha hi ea k hk hk2
    ·have := own_lt (h.d a ha) hk; omega
   ·simp only [if_neg ea, if_neg eb] at hk ⊢
    exact h.dd a b ha hb hab k hk
 ·rcases hk with hk | hk | ⟨j, hj, hk⟩
  ·exact .inl (.inl hk)
  ·exact .inl (.inr (.inl hk))
  ·by_cases e : j = i
   ·simp only [if_pos e] at hk
    rcases new k hk with hk | hk
    ·exact .inl (.inr (.inr ⟨i, hi, hk⟩))
    ·exact .inr hk
   ·simp only [if_neg e] at hk; exact .inl (.inr (.inr ⟨j, hj, hk⟩))
 ·simp at hb; omega
 ·by_cases e : j = i
  ·subst e; simp only [if_true]; exact cell_new (cell_mv (h.out j hj) mv (nm _ (by show w.heap.size + 4 ≤ _; omega)))
  ·simp only [if_neg e]; exact cell_put (cell_mv (h.out j hj) mv (nm _ (by show w.heap.size + 4 ≤ _; omega))) (at_ne (.inr (Ne.symm e)))
theorem RBox.mid {s : Option Addr × Nat × Option Addr × Nat × Option Addr × Nat} {c : S76} {gp gq : Nat} (h : RBox w W n AN cN N AG cG G AP cP P vE vD ev F B E) (q1 : Below W.heap.size W w1) (q2 : Did N G P AN AG AP c s w1 w2) (q3 : Below w1.heap.size w1 w2) (q4 : Below w2.heap.size w2 w3)
  (q5 : w3.heap[gp]? = some (.cells #[.slice none 0 0, .slice none 0 0, .slice none 0 0] 38)) (q6 : w3.heap[gq]? = some (.cells #[.int .i64 0, .int .i64 0] 73)) (q7 : gp ≠ gq) (q8 : W.heap.size ≤ gp) (q9 : W.heap.size ≤ gq) (q10 : gp < w1.heap.size ∨ w2.heap.size ≤ gp) (q11 : gq < w1.heap.size ∨ w2.heap.size ≤ gq) {F' : World}
  (hF : F' = ((((w3.setCell ⟨gp, 0, none⟩ (.slice s.1 (doT N G P c).1.length s.2.1)).setCell ⟨gp, 1, none⟩ (.slice s.2.2.1 (doT N G P c).2.1.length s.2.2.2.1)).setCell ⟨gp, 2, none⟩ (.slice s.2.2.2.2.1 (doT N G P c).2.2.1.length s.2.2.2.2.2)).setCell ⟨gq, 0, none⟩ (.int .i64 (doT N G P c).2.2.2.1)).setCell ⟨gq, 1, none⟩ (.int .i64 (doT N G P c).2.2.2.2)) :
  RBox w F' n AN cN N AG cG G AP cP P vE vD ev F B E ∧ MBox F' gp s.1 s.2.1 (doT N G P c).1 s.2.2.1 s.2.2.2.1 (doT N G P c).2.1 s.2.2.2.2.1 s.2.2.2.2.2 (doT N G P c).2.2.1 ∧ F'.heap[gq]? = some (.cells #[.int .i64 (doT N G P c).2.2.2.1, .int .i64 (doT N G P c).2.2.2.2] 73 (0, 0)) ∧
  MemoAt F' s.1 s.2.1 (doT N G P c).1 s.2.2.1 s.2.2.2.1 (doT N G P c).2.1 s.2.2.2.2.1 s.2.2.2.2.2 (doT N G P c).2.2.1 ∧ MOff s.1 (doT N G P c).1 s.2.2.1 (doT N G P c).2.1 s.2.2.2.2.1 (doT N G P c).2.2.1 (ownR w.heap.size n vE vD) ∧ w.heap.size + 4 < gq := by
 have i : Mv w3 F' [gq, gq, gp, gp, gp] := by rw [hF]; infer_instance
 have hb3 : Below W.heap.size W w3 := (q1.trans (q3.mono q1.size)).trans (q4.mono (Nat.le_trans q1.size q3.size))
 have h3 := h.below hb3
 have s1 := h.lt
 have mem5 : ∀ b, b ∈ [gq, gq, gp, gp, gp] → b = gq ∨ b = gp := fun b hb => by simp at hb; omega
 have old : ∀ k, ownR w.heap.size n vE vD k → k < W.heap.size := fun k hk => by
  rcases hk with hk | hk | ⟨j, hj, hk⟩
  ·omega
  ·exact own_lt h.ev hk
  ·exact own_lt (h.d j hj) hk
 have off : MOff s.1 (doT N G P c).1 s.2.2.1 (doT N G P c).2.1 s.2.2.2.2.1 (doT N G P c).2.2.1 (fun k => ownR w.heap.size n vE vD k ∨ k = gp ∨ k = gq) := by
  refine q2.off ((h.off.or h.mem.lt).mono (fun k hk => hk.imp id (fun hk => by omega))) (fun k k1 k2 hk => ?_)
  have := q1.size
  rcases hk with hk | rfl | rfl
  ·have := old k hk; omega
  ·omega
  ·omega
 refine ⟨h3.mv i (fun b hb => ⟨by rcases mem5 b hb with rfl | rfl <;> omega, fun e => by have := own_lt h.ev e; rcases mem5 b hb with rfl | rfl <;> omega, fun j hj e => by have := own_lt (h.d j hj) e; rcases mem5 b hb with rfl | rfl <;> omega⟩) (h.mem.lt.mono (fun k hk => by rcases mem5 k hk with rfl | rfl <;> assumption)), ?_, ?_, (q2.m.below q4).mv i (off.mono (fun k hk => (mem5 k hk).elim (fun e => .inr (.inr e)) (fun e => .inr (.inl e)))), off.mono (fun k hk => .inl hk), by omega⟩
 ·rw [hF]
  exact (Below.heap_setCell _ _ _ _ q7).trans ((Below.heap_setCell _ _ _ _ q7).trans (blk_put (blk_put (blk_put q5 0 _ rfl) 1 _ rfl) 2 _ rfl))
 ·rw [hF]
  exact blk_put (blk_put ((Below.heap_setCell _ _ _ _ q7.symm).trans ((Below.heap_setCell _ _ _ _ q7.symm).trans ((Below.heap_setCell _ _ _ _ q7.symm).trans q6))) 0 _ rfl) 1 _ rfl
end
end Go.Proofs.Ytkidnomkfdnciaa.All
