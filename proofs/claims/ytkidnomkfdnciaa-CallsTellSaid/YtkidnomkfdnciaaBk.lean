/- Functions of the program as plain Lean functions, and proofs that the calls do what these say; written for this claim by a program of the session (wip/tools/mkprint.py), checked by Lean. -/
import Derived.Test.YtkidnomkfdnciaaSets2
import Derived.Maps.Own
import Derived.Maps.Views
import Derived.Maps.OwnSet
import Derived.DeepKeys4
import Derived.Laws.AppendOwn
import Derived.RegionTactic
import Derived.ChangeAlike
namespace Go.Proofs.Ytkidnomkfdnciaa.All
open Go.RowKit Go.Proofs.YtkidnomkfdnciaaW.PrintWords Go.Proofs.YtkidnomkfdnciaaW.PrintLast Go.Proofs.YtkidnomkfdnciaaW.PrintMore
attribute [local go_sem] max2_int min2_int max_two min_two max_three min_three max_four min_four
set_option linter.unusedVariables false
set_option linter.unusedSimpArgs false
def roadbookref15_May.l0 : Nat → List Int → Int → Option (Bool)
 | 0, _, _ => none
 | k + 1, x0, x3 => if x3 < (x0.length : Int) then (if 0 ≤ x3 then (if (rd x0 x3) < 0 then (some false) else (if (rd x0 x3) > x3 then (some false) else (roadbookref15_May.l0 k x0 (wrap64 (x3 + 1))))) else (none)) else (some (decide ((x0.length : Int) ≤ 400)))
def roadbookref15_May.f (k : Nat) (l0 : List Int) : Option (Bool) := roadbookref15_May.l0 k l0 0
theorem roadbookref15_May.mono_l : ∀ k, (∀ y0 y1, LeO (roadbookref15_May.l0 k y0 y1) (roadbookref15_May.l0 (k + 1) y0 y1))
 | 0 => fun _ _ r h => by simp [roadbookref15_May.l0] at h
 | k + 1 => by
  have ih0 := roadbookref15_May.mono_l k
  ·intro y0 y1
   unfold roadbookref15_May.l0
   repeat' first
   | (with_reducible exact ih0 _ _)
   | (with_reducible exact LeO.refl _)
   | (with_reducible refine LeO.ite ?_ ?_)
theorem roadbookref15_May.mono : ∀ a0 k, LeO (roadbookref15_May.f k a0) (roadbookref15_May.f (k + 1) a0) := by
 intro a0 k
 have ih0 := roadbookref15_May.mono_l k
 unfold roadbookref15_May.f
 repeat' first
   | (with_reducible exact ih0 _ _)
set_option maxHeartbeats 8000000 in
set_option maxRecDepth 100000 in
theorem roadbookref15_May.calls (k : Nat) (A0 : Option Addr) (c0 : Nat) (l0 : List Int) (r : Bool) (w : World) (hr0 : Kd.C (Kd.int .i64) w A0 l0.length l0) (hc0 : l0.length ≤ c0) (h : roadbookref15_May.f k l0 = some r) :
  Calls Try.prog 31 #[.slice A0 l0.length c0] w fun e w' => e = .returned (.bool r) ∧ Drawn0 w w' := by
 have HR0 := Aside0.mk hr0
 have HC0 := Aside0.mk hc0
 clear hr0 hc0
 have H : (roadbookref15_May.l0 k l0 0) = some r := h
 clear h
 have H' := Aside0.mk H
 clear H
 go_enter Try.func31, Try.ntmps31
 go_wp2
 go_loopg [3] k (fun kq v3 w' => ∃ (x3_1 : Int), v3 = .int .i64 x3_1 ∧ Aside0 (roadbookref15_May.l0 kq l0 x3_1 = some r) ∧ Aside0 (kq ≤ k) ∧ Drawn0 w w')
 case atStart => exact ⟨(0), (by rfl), H', ⟨Nat.le_refl _⟩, by repeat (exact Drawn0.refl _)⟩
 case round =>
  clear H'
  obtain ⟨x3_1, rfl, HA, HK1, ⟨m1, rfl⟩⟩ := hrel
  cases gk with
  | zero => exact absurd HA.out (by simp [roadbookref15_May.l0])
  | succ k1 =>
   have H := HA.out
   clear HA
   simp only [roadbookref15_May.l0] at H
   by_cases c2 : x3_1 < (l0.length : Int)
   ·rw [if_pos c2] at H
    have c2b0 : decide (x3_1 < (l0.length : Int)) = true := decide_eq_true c2
    clear c2
    by_cases c3 : 0 ≤ x3_1
    ·rw [if_pos c3] at H
     have c3b0 : decide (0 ≤ x3_1) = true := decide_eq_true c3
     clear c3
     by_cases c4 : (rd l0 x3_1) < 0
     ·rw [if_pos c4] at H
      have c4b0 : decide ((rd l0 x3_1) < 0) = true := decide_eq_true c4
      clear c4
      obtain rfl := Option.some.inj H
      have p11 : 0 ≤ (x3_1 : Int) := of_decide_eq_true (by (with_reducible assumption))
      have q11 : x3_1 < (l0.length : Int) := of_decide_eq_true (by (with_reducible assumption))
      obtain ⟨ad11, e11, hx11_0⟩ := Kd.at_int HR0.out x3_1 p11 q11
      cases e11
      replace p11 := eq_true p11
      replace q11 := eq_true q11
      go_wp2
      go_ret
      exact ⟨by rfl, by repeat (first | exact Drawn0.refl _ | apply Drawn0.step)⟩
     ·rw [if_neg c4] at H
      have c4b0 : decide ((rd l0 x3_1) < 0) = false := decide_eq_false c4
      clear c4
      by_cases c5 : (rd l0 x3_1) > x3_1
      ·rw [if_pos c5] at H
       have c5b0 : decide (x3_1 < (rd l0 x3_1)) = true := decide_eq_true c5
       clear c5
       obtain rfl := Option.some.inj H
       have p11 : 0 ≤ (x3_1 : Int) := of_decide_eq_true (by (with_reducible assumption))
       have q11 : x3_1 < (l0.length : Int) := of_decide_eq_true (by (with_reducible assumption))
       obtain ⟨ad11, e11, hx11_0⟩ := Kd.at_int HR0.out x3_1 p11 q11
       cases e11
       replace p11 := eq_true p11
       replace q11 := eq_true q11
       have p12 : 0 ≤ (x3_1 : Int) := of_decide_eq_true (by (with_reducible assumption))
       have q12 : x3_1 < (l0.length : Int) := of_decide_eq_true (by (with_reducible assumption))
       obtain ⟨ad12, e12, hx12_0⟩ := Kd.at_int HR0.out x3_1 p12 q12
       obtain rfl : ad11 = ad12 := (by injection e12)
       replace p12 := eq_true p12
       replace q12 := eq_true q12
       go_wp2
       go_ret
       exact ⟨by rfl, by repeat (first | exact Drawn0.refl _ | apply Drawn0.step)⟩
      ·rw [if_neg c5] at H
       have c5b0 : decide (x3_1 < (rd l0 x3_1)) = false := decide_eq_false c5
       clear c5
       have H' := Aside0.mk H
       clear H
       have p11 : 0 ≤ (x3_1 : Int) := of_decide_eq_true (by (with_reducible assumption))
       have q11 : x3_1 < (l0.length : Int) := of_decide_eq_true (by (with_reducible assumption))
       obtain ⟨ad11, e11, hx11_0⟩ := Kd.at_int HR0.out x3_1 p11 q11
       cases e11
       replace p11 := eq_true p11
       replace q11 := eq_true q11
       have p12 : 0 ≤ (x3_1 : Int) := of_decide_eq_true (by (with_reducible assumption))
       have q12 : x3_1 < (l0.length : Int) := of_decide_eq_true (by (with_reducible assumption))
       obtain ⟨ad12, e12, hx12_0⟩ := Kd.at_int HR0.out x3_1 p12 q12
       obtain rfl : ad11 = ad12 := (by injection e12)
       replace p12 := eq_true p12
       replace q12 := eq_true q12
       go_wp2
       go_roundg k1
       case measure => have := HK1.out; omega
       case rel => exact ⟨(wrap64 (x3_1 + 1)), (by rfl), H', ⟨by have := HK1.out; omega⟩, by repeat (first | exact Drawn0.refl _ | apply Drawn0.step)⟩
    ·rw [if_neg c3] at H
     exact absurd H (by simp)
   ·rw [if_neg c2] at H
    have c2b0 : decide (x3_1 < (l0.length : Int)) = false := decide_eq_false c2
    clear c2
    obtain rfl := Option.some.inj H
    go_wp2
    go_ret
    exact ⟨by rfl, by repeat (first | exact Drawn0.refl _ | apply Drawn0.step)⟩
mutual
def roadbookref15_Find.j0 : Nat → List Int → Int → Bool → Option (Int)
 | 0, _, _, _ => none
 | k + 1, x0, x1, x19 => if x19 = true then (some (-1)) else (roadbookref15_Find.l0 k x0 x1)
def roadbookref15_Find.l0 : Nat → List Int → Int → Option (Int)
 | 0, _, _ => none
 | k + 1, x0, x1 => if 0 ≤ x1 then (if x1 < (x0.length : Int) then (if (rd x0 x1) = x1 then (some x1) else (roadbookref15_Find.l0 k x0 (rd x0 x1))) else (none)) else (none)
end
def roadbookref15_Find.f (k : Nat) (l0 : List Int) (a1 : Int) : Option (Int) := (roadbookref15_May.f k l0).bind fun t11 => (if t11 = true then (if a1 < 0 then (roadbookref15_Find.j0 k l0 a1 true) else (roadbookref15_Find.j0 k l0 a1 (decide (a1 ≥ (l0.length : Int))))) else (roadbookref15_Find.j0 k l0 a1 true))
theorem roadbookref15_Find.mono_l : ∀ k, (∀ y0 y1 y2, LeO (roadbookref15_Find.j0 k y0 y1 y2) (roadbookref15_Find.j0 (k + 1) y0 y1 y2)) ∧ (∀ y0 y1, LeO (roadbookref15_Find.l0 k y0 y1) (roadbookref15_Find.l0 (k + 1) y0 y1))
 | 0 => ⟨fun _ _ _ r h => by simp [roadbookref15_Find.j0] at h, fun _ _ r h => by simp [roadbookref15_Find.l0] at h⟩
 | k + 1 => by
  obtain ⟨ih0, ih1⟩ := roadbookref15_Find.mono_l k
  refine ⟨?_, ?_⟩
  ·intro y0 y1 y2
   unfold roadbookref15_Find.j0
   repeat' first
   | (with_reducible exact ih1 _ _)
   | (with_reducible exact LeO.refl _)
   | (with_reducible refine LeO.ite ?_ ?_)
  ·intro y0 y1
   unfold roadbookref15_Find.l0
   repeat' first
   | (with_reducible exact ih1 _ _)
   | (with_reducible exact LeO.refl _)
   | (with_reducible refine LeO.ite ?_ ?_)
theorem roadbookref15_Find.mono : ∀ a0 a1 k, LeO (roadbookref15_Find.f k a0 a1) (roadbookref15_Find.f (k + 1) a0 a1) := by
 intro a0 a1 k
 obtain ⟨ih0, ih1⟩ := roadbookref15_Find.mono_l k
 unfold roadbookref15_Find.f
 repeat' first
   | (with_reducible exact ih0 _ _ _)
   | (with_reducible exact roadbookref15_May.mono _ _)
   | (with_reducible refine LeO.ite ?_ ?_)
   | (with_reducible refine LeO.bind ?_ (fun _ => ?_))
set_option maxHeartbeats 8000000 in
set_option maxRecDepth 100000 in
theorem roadbookref15_Find.calls (k : Nat) (A0 : Option Addr) (c0 : Nat) (l0 : List Int) (a1 : Int) (r : Int) (w : World) (hr0 : Kd.C (Kd.int .i64) w A0 l0.length l0) (hc0 : l0.length ≤ c0) (h : roadbookref15_Find.f k l0 a1 = some r) :
  Calls Try.prog 32 #[.slice A0 l0.length c0, .int .i64 a1] w fun e w' => e = .returned (.int .i64 r) ∧ Drawn0 w w' := by
 have HR0 := Aside0.mk hr0
 have HC0 := Aside0.mk hc0
 clear hr0 hc0
 have H : ((roadbookref15_May.f k l0).bind fun t11 => (if t11 = true then (if a1 < 0 then (roadbookref15_Find.j0 k l0 a1 true) else (roadbookref15_Find.j0 k l0 a1 (decide (a1 ≥ (l0.length : Int))))) else (roadbookref15_Find.j0 k l0 a1 true))) = some r := h
 clear h
 replace H := Option.bind_eq_some_iff.mp H
 obtain ⟨t11, A30, H⟩ := H
 have A3 := Aside0.mk A30
 clear A30
 have HC4 := Aside0.mk H
 clear H
 go_enter Try.func32, Try.ntmps32
 go_upto_region 2 with (((with_reducible refine gate_callee (f := 31) rfl ?_); refine goesL_ (some 7) rfl rfl Try.func31 (by kernel_rfl) rfl #[.slice A0 l0.length c0] rfl (by (try simp only [List.map_toArray, List.map_cons, List.map_nil]); first | rfl ) ?_; (with_reducible refine (roadbookref15_May.calls k _ _ l0 t11 _ ?side1 ?side2 A3.out).mono ?_); (case side1 => repeat (exact HR0.out)); (case side2 => exact HC0.out); rintro e w' ⟨rfl, ⟨nd, rfl⟩⟩; refine ⟨_, rfl, ?_⟩))
 (try simp only [Act.put, List.setIfInBounds_toArray, List.set_cons_zero, List.set_cons_succ])
 go_cut [19] (fun v19 wc => ∃ (kq : Nat) (x19_3 : Bool), v19 = .bool x19_3 ∧ Aside0 (roadbookref15_Find.j0 kq l0 a1 x19_3 = some r) ∧ Aside0 (kq ≤ k) ∧ Drawn0 w wc)
 case first =>
  have H := HC4.out
  clear HC4
  by_cases c5 : t11 = true
  ·subst c5
   rw [if_pos rfl] at H
   by_cases c6 : a1 < 0
   ·rw [if_pos c6] at H
    have c6b0 : decide (a1 < 0) = true := decide_eq_true c6
    clear c6
    (skip)
    have H' := Aside0.mk H
    clear H
    go_wp2
    go_meet
    case rel => exact ⟨_, (true), (by rfl), H', ⟨by omega⟩, by repeat (first | exact Drawn0.refl _ | apply Drawn0.step)⟩
   ·rw [if_neg c6] at H
    have c6b0 : decide (a1 < 0) = false := decide_eq_false c6
    clear c6
    (skip)
    have H' := Aside0.mk H
    clear H
    go_wp2
    go_meet
    case rel => exact ⟨_, (decide (a1 ≥ (l0.length : Int))), (by rfl), H', ⟨by omega⟩, by repeat (first | exact Drawn0.refl _ | apply Drawn0.step)⟩
  ·replace c5 := Bool.eq_false_iff.mpr c5
   subst c5
   rw [if_neg (show ¬ (false = true) by decide)] at H
   have H' := Aside0.mk H
   clear H
   go_wp2
   go_meet
   case rel => exact ⟨_, (true), (by rfl), H', ⟨by omega⟩, by repeat (first | exact Drawn0.refl _ | apply Drawn0.step)⟩
 case rest =>
  clear HC4
  obtain ⟨kq, x19_3, rfl, HA, HJ3, ⟨mc3, rfl⟩⟩ := hcut
  cases kq with
  | zero => exact absurd HA.out (by simp [roadbookref15_Find.j0])
  | succ kj3 =>
   have H := HA.out
   clear HA
   simp only [roadbookref15_Find.j0] at H
   by_cases c7 : x19_3 = true
   ·subst c7
    rw [if_pos rfl] at H
    obtain rfl := Option.some.inj H
    go_wp2
    go_ret
    exact ⟨by rfl, by repeat (first | exact Drawn0.refl _ | apply Drawn0.step)⟩
   ·replace c7 := Bool.eq_false_iff.mpr c7
    subst c7
    rw [if_neg (show ¬ (false = true) by decide)] at H
    have H' := Aside0.mk H
    clear H
    go_wp2
    go_loopg [1] kj3 (fun kq v1 w' => ∃ (x1_2 : Int), v1 = .int .i64 x1_2 ∧ Aside0 (roadbookref15_Find.l0 kq l0 x1_2 = some r) ∧ Aside0 (kq ≤ kj3) ∧ Drawn0 w w')
    case atStart => exact ⟨(a1), (by rfl), H', ⟨Nat.le_refl _⟩, by repeat (first | exact Drawn0.refl _ | apply Drawn0.step)⟩
    case round =>
     clear H'
     obtain ⟨x1_2, rfl, HA, HK2, ⟨m2, rfl⟩⟩ := hrel
     cases gk with
     | zero => exact absurd HA.out (by simp [roadbookref15_Find.l0])
     | succ k2 =>
      have H := HA.out
      clear HA
      simp only [roadbookref15_Find.l0] at H
      by_cases c8 : 0 ≤ x1_2
      ·rw [if_pos c8] at H
       have c8b0 : decide (0 ≤ x1_2) = true := decide_eq_true c8
       clear c8
       by_cases c9 : x1_2 < (l0.length : Int)
       ·rw [if_pos c9] at H
        have c9b0 : decide (x1_2 < (l0.length : Int)) = true := decide_eq_true c9
        clear c9
        by_cases c10 : (rd l0 x1_2) = x1_2
        ·rw [if_pos c10] at H
         have c10b0 : ((rd l0 x1_2) == x1_2) = true := beq_iff_eq.mpr c10
         have c10b1 : ((rd l0 x1_2) != x1_2) = false := bne_eq_false_iff_eq.mpr c10
         clear c10
         obtain rfl := Option.some.inj H
         have p12 : 0 ≤ (x1_2 : Int) := of_decide_eq_true (by (with_reducible assumption))
         have q12 : x1_2 < (l0.length : Int) := of_decide_eq_true (by (with_reducible assumption))
         obtain ⟨ad12, e12, hx12_0⟩ := Kd.at_int HR0.out x1_2 p12 q12
         cases e12
         replace p12 := eq_true p12
         replace q12 := eq_true q12
         go_wp2
         go_ret
         exact ⟨by rfl, by repeat (first | exact Drawn0.refl _ | apply Drawn0.step)⟩
        ·rw [if_neg c10] at H
         have c10b0 : ((rd l0 x1_2) == x1_2) = false := beq_eq_false_iff_ne.mpr c10
         have c10b1 : ((rd l0 x1_2) != x1_2) = true := bne_iff_ne.mpr c10
         have H' := Aside0.mk H
         clear H
         have p12 : 0 ≤ (x1_2 : Int) := of_decide_eq_true (by (with_reducible assumption))
         have q12 : x1_2 < (l0.length : Int) := of_decide_eq_true (by (with_reducible assumption))
         obtain ⟨ad12, e12, hx12_0⟩ := Kd.at_int HR0.out x1_2 p12 q12
         cases e12
         replace p12 := eq_true p12
         replace q12 := eq_true q12
         have p13 : 0 ≤ (x1_2 : Int) := of_decide_eq_true (by (with_reducible assumption))
         have q13 : x1_2 < (l0.length : Int) := of_decide_eq_true (by (with_reducible assumption))
         obtain ⟨ad13, e13, hx13_0⟩ := Kd.at_int HR0.out x1_2 p13 q13
         obtain rfl : ad12 = ad13 := (by injection e13)
         replace p13 := eq_true p13
         replace q13 := eq_true q13
         go_wp2
         go_roundg k2
         case measure => have := HJ3.out; have := HK2.out; omega
         case rel => exact ⟨(rd l0 x1_2), (by rfl), H', ⟨by have := HJ3.out; have := HK2.out; omega⟩, by repeat (first | exact Drawn0.refl _ | apply Drawn0.step)⟩
       ·rw [if_neg c9] at H
        exact absurd H (by simp)
      ·rw [if_neg c8] at H
       exact absurd H (by simp)
def roadbookref15_Roots.l0 : Nat → List Int → List Int → Bool → Int → Option (List Int)
 | 0, _, _, _, _ => none
 | k + 1, x0, x3, x4, x5 => if x5 < (x0.length : Int) then (if x4 = true then ((roadbookref15_Find.f k x0 x5).bind fun t12 => (if x3.length < 17592186044416 then (roadbookref15_Roots.l0 k x0 (x3 ++ [t12]) x4 (wrap64 (x5 + 1))) else (none))) else (some x3)) else (some x3)
def roadbookref15_Roots.f (k : Nat) (l0 : List Int) : Option (List Int) := (roadbookref15_May.f k l0).bind fun t11 => (roadbookref15_Roots.l0 k l0 ([] : List Int) t11 0)
theorem roadbookref15_Roots.mono_l : ∀ k, (∀ y0 y1 y2 y3, LeO (roadbookref15_Roots.l0 k y0 y1 y2 y3) (roadbookref15_Roots.l0 (k + 1) y0 y1 y2 y3))
 | 0 => fun _ _ _ _ r h => by simp [roadbookref15_Roots.l0] at h
 | k + 1 => by
  have ih0 := roadbookref15_Roots.mono_l k
  ·intro y0 y1 y2 y3
   unfold roadbookref15_Roots.l0
   repeat' first
   | (with_reducible exact ih0 _ _ _ _)
   | (with_reducible exact roadbookref15_Find.mono _ _ _)
   | (with_reducible exact LeO.refl _)
   | (with_reducible refine LeO.ite ?_ ?_)
   | (with_reducible refine LeO.bind ?_ (fun _ => ?_))
theorem roadbookref15_Roots.mono : ∀ a0 k, LeO (roadbookref15_Roots.f k a0) (roadbookref15_Roots.f (k + 1) a0) := by
 intro a0 k
 have ih0 := roadbookref15_Roots.mono_l k
 unfold roadbookref15_Roots.f
 repeat' first
   | (with_reducible exact ih0 _ _ _ _)
   | (with_reducible exact roadbookref15_May.mono _ _)
   | (with_reducible refine LeO.bind ?_ (fun _ => ?_))
set_option maxHeartbeats 8000000 in
set_option maxRecDepth 100000 in
theorem roadbookref15_Roots.calls (k : Nat) (A0 : Option Addr) (c0 : Nat) (l0 : List Int) (r : List Int) (w : World) (hr0 : Kd.C (Kd.int .i64) w A0 l0.length l0) (hc0 : l0.length ≤ c0) (h : roadbookref15_Roots.f k l0 = some r) :
  Calls Try.prog 34 #[.slice A0 l0.length c0] w fun e w' => ∃ v0_ : Value, e = .returned (v0_) ∧ Kd.R (Kd.int .i64) 3 w' w.heap.size (fun _ => True) v0_ r ∧ Below w.heap.size w w' := by
 have HR0 := Aside0.mk hr0
 have HC0 := Aside0.mk hc0
 clear hr0 hc0
 have HB := Aside0.mk (Below.refl w.heap.size w)
 have H : ((roadbookref15_May.f k l0).bind fun t11 => (roadbookref15_Roots.l0 k l0 ([] : List Int) t11 0)) = some r := h
 clear h
 replace H := Option.bind_eq_some_iff.mp H
 obtain ⟨t11, A20, H⟩ := H
 have A2 := Aside0.mk A20
 clear A20
 have H' := Aside0.mk H
 clear H
 go_enter Try.func34, Try.ntmps34
 go_wp2_with (((with_reducible refine gate_callee (f := 31) rfl ?_); refine goesL_ (some 7) rfl rfl Try.func31 (by kernel_rfl) rfl #[.slice A0 l0.length c0] rfl (by (try simp only [List.map_toArray, List.map_cons, List.map_nil]); first | rfl ) ?_; (with_reducible refine (roadbookref15_May.calls k _ _ l0 t11 _ ?side1 ?side2 A2.out).mono ?_); (case side1 => repeat (exact HR0.out)); (case side2 => exact HC0.out); rintro e w' ⟨rfl, ⟨nd, rfl⟩⟩; refine ⟨_, rfl, ?_⟩))
 go_loopg [3, 5] k (fun kq v3 v5 w' => ∃ (x3_1 : List Int) (x5_1 : Int), v5 = .int .i64 x5_1 ∧ Aside0 (roadbookref15_Roots.l0 kq l0 x3_1 t11 x5_1 = some r) ∧ Aside0 (kq ≤ k) ∧ Aside0 (Kd.R (Kd.int .i64) 3 w' w.heap.size (fun _ => True) v3 x3_1) ∧ Aside0 (Below w.heap.size w w'))
 case atStart => exact ⟨(([] : List Int)), (0), (by rfl), H', ⟨Nat.le_refl _⟩, ⟨by exact Kd.R_nil _ _ _ _ _⟩, ⟨by repeat ((with_reducible first | exact HB.out | apply pw_below_drewN ))⟩⟩
 case round =>
  clear H'
  obtain ⟨x3_1, x5_1, rfl, HA, HK1, HO_3, HB⟩ := hrel
  cases gk with
  | zero => exact absurd HA.out (by simp [roadbookref15_Roots.l0])
  | succ k1 =>
   have H := HA.out
   clear HA
   simp only [roadbookref15_Roots.l0] at H
   by_cases c3 : x5_1 < (l0.length : Int)
   ·rw [if_pos c3] at H
    have c3b0 : decide (x5_1 < (l0.length : Int)) = true := decide_eq_true c3
    clear c3
    by_cases c4 : t11 = true
    ·subst c4
     rw [if_pos rfl] at H
     replace H := Option.bind_eq_some_iff.mp H
     obtain ⟨t12, A50, H⟩ := H
     have A5 := Aside0.mk A50
     clear A50
     by_cases c6 : x3_1.length < 17592186044416
     ·rw [if_pos c6] at H
      have LMc6 := Aside0.mk c6
      clear c6
      obtain ⟨y13, hy13⟩ : ∃ y_ : List Int, y_ = (x3_1 ++ [t12]) := ⟨_, rfl⟩
      replace H : (roadbookref15_Roots.l0 k1 l0 y13 true (wrap64 (x5_1 + 1))) = some r := by (rw [hy13]; with_reducible exact H)
      have Ny13 := Aside0.mk hy13
      clear hy13
      have H' := Aside0.mk H
      clear H
      go_wp2_with (first | ((with_reducible refine gate_callee (f := 32) rfl ?_); refine goesL_ (some 20) rfl rfl Try.func32 (by kernel_rfl) rfl #[.slice A0 l0.length c0, .int .i64 x5_1] rfl (by (try simp only [List.map_toArray, List.map_cons, List.map_nil]); first | rfl ) ?_; (with_reducible refine (roadbookref15_Find.calls k1 _ _ l0 x5_1 t12 _ ?side1 ?side2 A5.out).mono ?_); (case side1 => repeat (exact (Kd.C_below HR0.out HB.out))); (case side2 => exact HC0.out); rintro e w' ⟨rfl, ⟨nd, rfl⟩⟩; refine ⟨_, rfl, ?_⟩) | ((with_reducible refine gate_builtin (b := .append) (xs := #[.tmp 17, .tmp 21]) rfl ?_); at_builtin; refine Kd.R_append (Kd.int .i64) (w0 := w) w.heap.size rfl (.tmp 17) (.tmp 21) 22 3 (.int .i64 0) 8 rfl Try.underlying22 info3 rfl (by decide) (by omega) u3 x3_1 t12 [.int .i64 t12] (fun _ => True) (fun _ => False) rfl rfl ?aP (fun _ hk => hk.elim) ?aF ?aO ?aB ?aS ?aL ?_; (case aP => exact rfl); (case aB => exact (by repeat ((with_reducible first | exact HB.out | apply pw_below_drewN )))); (case aF => exact (fun _ _ => trivial)); (case aO => exact (by (with_reducible repeat (apply Kd.R_drewN)); exact HO_3.out)); (case aS => exact (below_size (by repeat ((with_reducible first | exact HB.out | apply pw_below_drewN ))))); (case aL => have := LMc6.out; omega); intro v14 w7 ho hb hg hat; rw [← Ny13.out] at ho; replace HB := Aside0.mk (hb); have HO15 := Aside0.mk (ho); clear HO_3; clear ho hb hg hat))
      go_roundg k1
      case measure => have := HK1.out; omega
      case rel => exact ⟨(y13), (wrap64 (x5_1 + 1)), (by rfl), H', ⟨by have := HK1.out; omega⟩, ⟨by (with_reducible repeat (first | apply Kd.R_alloc | apply Kd.R_drewN | apply Kd.R_drew)); exact HO15.out⟩, ⟨by repeat ((with_reducible first | exact HB.out ))⟩⟩
     ·rw [if_neg c6] at H
      exact absurd H (by simp)
    ·replace c4 := Bool.eq_false_iff.mpr c4
     subst c4
     rw [if_neg (show ¬ (false = true) by decide)] at H
     obtain rfl := Option.some.inj H
     go_wp2
     go_ret
     exact ⟨_, by rfl, by (with_reducible repeat (first | apply Kd.R_alloc | apply Kd.R_drewN | apply Kd.R_drew)); exact HO_3.out, by repeat ((with_reducible first | exact HB.out ))⟩
   ·rw [if_neg c3] at H
    have c3b0 : decide (x5_1 < (l0.length : Int)) = false := decide_eq_false c3
    clear c3
    obtain rfl := Option.some.inj H
    go_wp2
    go_ret
    exact ⟨_, by rfl, by (with_reducible repeat (first | apply Kd.R_alloc | apply Kd.R_drewN | apply Kd.R_drew)); exact HO_3.out, by repeat ((with_reducible first | exact HB.out ))⟩
def roadbookref15_Same.f (k : Nat) (l0 : List Int) (l1 : List Int) : Option (Bool) := (roadbookref15_May.f k l0).bind fun t11 => ((roadbookref15_May.f k l1).bind fun t12 => ((roadbookref15_Roots.f k l0).bind fun t13 => ((roadbookref15_Roots.f k l1).bind fun t16 => ((roadbookref02_Ints.f k t13 t16).bind fun t19 => (if t11 = true then (if t12 = true then (some t19) else (some false)) else (some false))))))
set_option maxHeartbeats 8000000 in
set_option maxRecDepth 100000 in
theorem roadbookref15_Same.calls (k : Nat) (A0 : Option Addr) (c0 : Nat) (l0 : List Int) (A1 : Option Addr) (c1 : Nat) (l1 : List Int) (r : Bool) (w : World) (hr0 : Kd.C (Kd.int .i64) w A0 l0.length l0) (hc0 : l0.length ≤ c0) (hr1 : Kd.C (Kd.int .i64) w A1 l1.length l1) (hc1 : l1.length ≤ c1) (h : roadbookref15_Same.f k l0 l1 = some r) :
  Calls Try.prog 37 #[.slice A0 l0.length c0, .slice A1 l1.length c1] w fun e w' => e = .returned (.bool r) ∧ Below w.heap.size w w' := by
 have HR0 := Aside0.mk hr0
 have HC0 := Aside0.mk hc0
 clear hr0 hc0
 have HR1 := Aside0.mk hr1
 have HC1 := Aside0.mk hc1
 clear hr1 hc1
 have HB := Aside0.mk (Below.refl w.heap.size w)
 have H : ((roadbookref15_May.f k l0).bind fun t11 => ((roadbookref15_May.f k l1).bind fun t12 => ((roadbookref15_Roots.f k l0).bind fun t13 => ((roadbookref15_Roots.f k l1).bind fun t16 => ((roadbookref02_Ints.f k t13 t16).bind fun t19 => (if t11 = true then (if t12 = true then (some t19) else (some false)) else (some false))))))) = some r := h
 clear h
 replace H := Option.bind_eq_some_iff.mp H
 obtain ⟨t11, A30, H⟩ := H
 have A3 := Aside0.mk A30
 clear A30
 replace H := Option.bind_eq_some_iff.mp H
 obtain ⟨t12, A40, H⟩ := H
 have A4 := Aside0.mk A40
 clear A40
 replace H := Option.bind_eq_some_iff.mp H
 obtain ⟨t13, A50, H⟩ := H
 have A5 := Aside0.mk A50
 clear A50
 replace H := Option.bind_eq_some_iff.mp H
 obtain ⟨t16, A60, H⟩ := H
 have A6 := Aside0.mk A60
 clear A60
 replace H := Option.bind_eq_some_iff.mp H
 obtain ⟨t19, A70, H⟩ := H
 have A7 := Aside0.mk A70
 clear A70
 by_cases c8 : t11 = true
 ·subst c8
  rw [if_pos rfl] at H
  by_cases c9 : t12 = true
  ·subst c9
   rw [if_pos rfl] at H
   obtain rfl := Option.some.inj H
   go_enter Try.func37, Try.ntmps37
   go_wp2_with (first | ((with_reducible refine gate_callee (f := 31) rfl ?_); refine goesL_ (some 9) rfl rfl Try.func31 (by kernel_rfl) rfl #[.slice A0 l0.length c0] rfl (by (try simp only [List.map_toArray, List.map_cons, List.map_nil]); first | rfl ) ?_; (with_reducible refine (roadbookref15_May.calls k _ _ l0 true _ ?side1 ?side2 A3.out).mono ?_); (case side1 => repeat (exact HR0.out)); (case side2 => exact HC0.out); rintro e w' ⟨rfl, ⟨nd, rfl⟩⟩; refine ⟨_, rfl, ?_⟩) | ((with_reducible refine gate_callee (f := 31) rfl ?_); refine goesL_ (some 11) rfl rfl Try.func31 (by kernel_rfl) rfl #[.slice A1 l1.length c1] rfl (by (try simp only [List.map_toArray, List.map_cons, List.map_nil]); first | rfl ) ?_; (with_reducible refine (roadbookref15_May.calls k _ _ l1 true _ ?side1 ?side2 A4.out).mono ?_); (case side1 => repeat (exact HR1.out)); (case side2 => exact HC1.out); rintro e w' ⟨rfl, ⟨nd, rfl⟩⟩; refine ⟨_, rfl, ?_⟩) | ((with_reducible refine gate_callee (f := 34) rfl ?_); refine goesL_ (some 13) rfl rfl Try.func34 (by kernel_rfl) rfl #[.slice A0 l0.length c0] rfl (by (try simp only [List.map_toArray, List.map_cons, List.map_nil]); first | rfl ) ?_; (with_reducible refine (roadbookref15_Roots.calls k _ _ l0 t13 _ ?side1 ?side2 A5.out).mono ?_); (case side1 => repeat (exact HR0.out)); (case side2 => exact HC0.out); rintro e w10 ⟨v14, rfl, ho0, hb⟩; refine ⟨_, rfl, ?_⟩; have HO15 := Aside0.mk (Kd.R_lower ho0 (below_size (by repeat ((with_reducible first | exact HB.out | apply pw_below_drewN ))))); replace HB := Aside0.mk (below_step (by repeat ((with_reducible first | exact HB.out | apply pw_below_drewN ))) hb); (try clear hb); (try clear ho0)) | ((with_reducible refine gate_callee (f := 34) rfl ?_); refine goesL_ (some 15) rfl rfl Try.func34 (by kernel_rfl) rfl #[.slice A1 l1.length c1] rfl (by (try simp only [List.map_toArray, List.map_cons, List.map_nil]); first | rfl ) ?_; (with_reducible refine (roadbookref15_Roots.calls k _ _ l1 t16 _ ?side1 ?side2 A6.out).mono ?_); (case side1 => repeat (exact (Kd.C_below HR1.out HB.out))); (case side2 => exact HC1.out); rintro e w11 ⟨v17, rfl, ho0, hb⟩; refine ⟨_, rfl, ?_⟩; have HO18 := Aside0.mk (Kd.R_lower (Kd.R_new' ho0 (Kd.R_lt (by (with_reducible repeat (first | apply Kd.R_alloc | apply Kd.R_drewN | apply Kd.R_drew)); exact HO15.out))) (below_size (by repeat ((with_reducible first | exact HB.out ))))); replace HO15 := Aside0.mk (Kd.R_elder' (by (with_reducible repeat (first | apply Kd.R_alloc | apply Kd.R_drewN | apply Kd.R_drew)); exact HO15.out) (Kd.R_base ho0) hb); replace HB := Aside0.mk (below_step (by repeat ((with_reducible first | exact HB.out ))) hb); (try clear hb); (try clear ho0); obtain ⟨Ao12, co12, eo12⟩ := Kd.R_slice HO15.out; subst eo12; obtain ⟨Ao13, co13, eo13⟩ := Kd.R_slice HO18.out; subst eo13) | ((with_reducible refine gate_callee (f := 27) rfl ?_); refine goesL_ (some 16) rfl rfl Try.func27 (by kernel_rfl) rfl #[.slice Ao12 t13.length co12, .slice Ao13 t16.length co13] rfl (by (try simp only [List.map_toArray, List.map_cons, List.map_nil]); first | rfl ) ?_; (with_reducible refine (roadbookref02_Ints.calls k _ _ t13 _ _ t16 t19 _ ?side1 ?side2 ?side3 ?side4 A7.out).mono ?_); (case side1 => repeat (exact (Kd.R_reads' HO15.out).2.2)); (case side2 => exact (Kd.R_reads' HO15.out).2.1); (case side3 => repeat (exact (Kd.R_reads' HO18.out).2.2)); (case side4 => exact (Kd.R_reads' HO18.out).2.1); rintro e w' ⟨rfl, ⟨nd, rfl⟩⟩; refine ⟨_, rfl, ?_⟩))
   go_ret
   exact ⟨by rfl, by repeat ((with_reducible first | exact HB.out | apply pw_below_drewN ))⟩
  ·replace c9 := Bool.eq_false_iff.mpr c9
   subst c9
   rw [if_neg (show ¬ (false = true) by decide)] at H
   obtain rfl := Option.some.inj H
   go_enter Try.func37, Try.ntmps37
   go_wp2_with (first | ((with_reducible refine gate_callee (f := 31) rfl ?_); refine goesL_ (some 9) rfl rfl Try.func31 (by kernel_rfl) rfl #[.slice A0 l0.length c0] rfl (by (try simp only [List.map_toArray, List.map_cons, List.map_nil]); first | rfl ) ?_; (with_reducible refine (roadbookref15_May.calls k _ _ l0 true _ ?side1 ?side2 A3.out).mono ?_); (case side1 => repeat (exact HR0.out)); (case side2 => exact HC0.out); rintro e w' ⟨rfl, ⟨nd, rfl⟩⟩; refine ⟨_, rfl, ?_⟩) | ((with_reducible refine gate_callee (f := 31) rfl ?_); refine goesL_ (some 11) rfl rfl Try.func31 (by kernel_rfl) rfl #[.slice A1 l1.length c1] rfl (by (try simp only [List.map_toArray, List.map_cons, List.map_nil]); first | rfl ) ?_; (with_reducible refine (roadbookref15_May.calls k _ _ l1 false _ ?side1 ?side2 A4.out).mono ?_); (case side1 => repeat (exact HR1.out)); (case side2 => exact HC1.out); rintro e w' ⟨rfl, ⟨nd, rfl⟩⟩; refine ⟨_, rfl, ?_⟩) | ((with_reducible refine gate_callee (f := 34) rfl ?_); refine goesL_ (some 13) rfl rfl Try.func34 (by kernel_rfl) rfl #[.slice A0 l0.length c0] rfl (by (try simp only [List.map_toArray, List.map_cons, List.map_nil]); first | rfl ) ?_; (with_reducible refine (roadbookref15_Roots.calls k _ _ l0 t13 _ ?side1 ?side2 A5.out).mono ?_); (case side1 => repeat (exact HR0.out)); (case side2 => exact HC0.out); rintro e w14 ⟨v14, rfl, ho0, hb⟩; refine ⟨_, rfl, ?_⟩; have HO15 := Aside0.mk (Kd.R_lower ho0 (below_size (by repeat ((with_reducible first | exact HB.out | apply pw_below_drewN ))))); replace HB := Aside0.mk (below_step (by repeat ((with_reducible first | exact HB.out | apply pw_below_drewN ))) hb); (try clear hb); (try clear ho0)) | ((with_reducible refine gate_callee (f := 34) rfl ?_); refine goesL_ (some 15) rfl rfl Try.func34 (by kernel_rfl) rfl #[.slice A1 l1.length c1] rfl (by (try simp only [List.map_toArray, List.map_cons, List.map_nil]); first | rfl ) ?_; (with_reducible refine (roadbookref15_Roots.calls k _ _ l1 t16 _ ?side1 ?side2 A6.out).mono ?_); (case side1 => repeat (exact (Kd.C_below HR1.out HB.out))); (case side2 => exact HC1.out); rintro e w15 ⟨v17, rfl, ho0, hb⟩; refine ⟨_, rfl, ?_⟩; have HO18 := Aside0.mk (Kd.R_lower (Kd.R_new' ho0 (Kd.R_lt (by (with_reducible repeat (first | apply Kd.R_alloc | apply Kd.R_drewN | apply Kd.R_drew)); exact HO15.out))) (below_size (by repeat ((with_reducible first | exact HB.out ))))); replace HO15 := Aside0.mk (Kd.R_elder' (by (with_reducible repeat (first | apply Kd.R_alloc | apply Kd.R_drewN | apply Kd.R_drew)); exact HO15.out) (Kd.R_base ho0) hb); replace HB := Aside0.mk (below_step (by repeat ((with_reducible first | exact HB.out ))) hb); (try clear hb); (try clear ho0); obtain ⟨Ao16, co16, eo16⟩ := Kd.R_slice HO15.out; subst eo16; obtain ⟨Ao17, co17, eo17⟩ := Kd.R_slice HO18.out; subst eo17) | ((with_reducible refine gate_callee (f := 27) rfl ?_); refine goesL_ (some 16) rfl rfl Try.func27 (by kernel_rfl) rfl #[.slice Ao16 t13.length co16, .slice Ao17 t16.length co17] rfl (by (try simp only [List.map_toArray, List.map_cons, List.map_nil]); first | rfl ) ?_; (with_reducible refine (roadbookref02_Ints.calls k _ _ t13 _ _ t16 t19 _ ?side1 ?side2 ?side3 ?side4 A7.out).mono ?_); (case side1 => repeat (exact (Kd.R_reads' HO15.out).2.2)); (case side2 => exact (Kd.R_reads' HO15.out).2.1); (case side3 => repeat (exact (Kd.R_reads' HO18.out).2.2)); (case side4 => exact (Kd.R_reads' HO18.out).2.1); rintro e w' ⟨rfl, ⟨nd, rfl⟩⟩; refine ⟨_, rfl, ?_⟩))
   go_ret
   exact ⟨by rfl, by repeat ((with_reducible first | exact HB.out | apply pw_below_drewN ))⟩
 ·replace c8 := Bool.eq_false_iff.mpr c8
  subst c8
  rw [if_neg (show ¬ (false = true) by decide)] at H
  obtain rfl := Option.some.inj H
  go_enter Try.func37, Try.ntmps37
  go_wp2_with (first | ((with_reducible refine gate_callee (f := 31) rfl ?_); refine goesL_ (some 9) rfl rfl Try.func31 (by kernel_rfl) rfl #[.slice A0 l0.length c0] rfl (by (try simp only [List.map_toArray, List.map_cons, List.map_nil]); first | rfl ) ?_; (with_reducible refine (roadbookref15_May.calls k _ _ l0 false _ ?side1 ?side2 A3.out).mono ?_); (case side1 => repeat (exact HR0.out)); (case side2 => exact HC0.out); rintro e w' ⟨rfl, ⟨nd, rfl⟩⟩; refine ⟨_, rfl, ?_⟩) | ((with_reducible refine gate_callee (f := 31) rfl ?_); refine goesL_ (some 11) rfl rfl Try.func31 (by kernel_rfl) rfl #[.slice A1 l1.length c1] rfl (by (try simp only [List.map_toArray, List.map_cons, List.map_nil]); first | rfl ) ?_; (with_reducible refine (roadbookref15_May.calls k _ _ l1 t12 _ ?side1 ?side2 A4.out).mono ?_); (case side1 => repeat (exact HR1.out)); (case side2 => exact HC1.out); rintro e w' ⟨rfl, ⟨nd, rfl⟩⟩; refine ⟨_, rfl, ?_⟩) | ((with_reducible refine gate_callee (f := 34) rfl ?_); refine goesL_ (some 13) rfl rfl Try.func34 (by kernel_rfl) rfl #[.slice A0 l0.length c0] rfl (by (try simp only [List.map_toArray, List.map_cons, List.map_nil]); first | rfl ) ?_; (with_reducible refine (roadbookref15_Roots.calls k _ _ l0 t13 _ ?side1 ?side2 A5.out).mono ?_); (case side1 => repeat (exact HR0.out)); (case side2 => exact HC0.out); rintro e w18 ⟨v14, rfl, ho0, hb⟩; refine ⟨_, rfl, ?_⟩; have HO15 := Aside0.mk (Kd.R_lower ho0 (below_size (by repeat ((with_reducible first | exact HB.out | apply pw_below_drewN ))))); replace HB := Aside0.mk (below_step (by repeat ((with_reducible first | exact HB.out | apply pw_below_drewN ))) hb); (try clear hb); (try clear ho0)) | ((with_reducible refine gate_callee (f := 34) rfl ?_); refine goesL_ (some 15) rfl rfl Try.func34 (by kernel_rfl) rfl #[.slice A1 l1.length c1] rfl (by (try simp only [List.map_toArray, List.map_cons, List.map_nil]); first | rfl ) ?_; (with_reducible refine (roadbookref15_Roots.calls k _ _ l1 t16 _ ?side1 ?side2 A6.out).mono ?_); (case side1 => repeat (exact (Kd.C_below HR1.out HB.out))); (case side2 => exact HC1.out); rintro e w19 ⟨v17, rfl, ho0, hb⟩; refine ⟨_, rfl, ?_⟩; have HO18 := Aside0.mk (Kd.R_lower (Kd.R_new' ho0 (Kd.R_lt (by (with_reducible repeat (first | apply Kd.R_alloc | apply Kd.R_drewN | apply Kd.R_drew)); exact HO15.out))) (below_size (by repeat ((with_reducible first | exact HB.out ))))); replace HO15 := Aside0.mk (Kd.R_elder' (by (with_reducible repeat (first | apply Kd.R_alloc | apply Kd.R_drewN | apply Kd.R_drew)); exact HO15.out) (Kd.R_base ho0) hb); replace HB := Aside0.mk (below_step (by repeat ((with_reducible first | exact HB.out ))) hb); (try clear hb); (try clear ho0); obtain ⟨Ao20, co20, eo20⟩ := Kd.R_slice HO15.out; subst eo20; obtain ⟨Ao21, co21, eo21⟩ := Kd.R_slice HO18.out; subst eo21) | ((with_reducible refine gate_callee (f := 27) rfl ?_); refine goesL_ (some 16) rfl rfl Try.func27 (by kernel_rfl) rfl #[.slice Ao20 t13.length co20, .slice Ao21 t16.length co21] rfl (by (try simp only [List.map_toArray, List.map_cons, List.map_nil]); first | rfl ) ?_; (with_reducible refine (roadbookref02_Ints.calls k _ _ t13 _ _ t16 t19 _ ?side1 ?side2 ?side3 ?side4 A7.out).mono ?_); (case side1 => repeat (exact (Kd.R_reads' HO15.out).2.2)); (case side2 => exact (Kd.R_reads' HO15.out).2.1); (case side3 => repeat (exact (Kd.R_reads' HO18.out).2.2)); (case side4 => exact (Kd.R_reads' HO18.out).2.1); rintro e w' ⟨rfl, ⟨nd, rfl⟩⟩; refine ⟨_, rfl, ?_⟩))
  go_ret
  exact ⟨by rfl, by repeat ((with_reducible first | exact HB.out | apply pw_below_drewN ))⟩
end Go.Proofs.Ytkidnomkfdnciaa.All
namespace Go.Proofs.Ytkidnomkfdnciaa.All
open Go.RowKit Go.Proofs.YtkidnomkfdnciaaW.PrintWords
theorem may15_loop (p : List Int) (hp : p.length ≤ 9223372036854775807) (d : Nat) : ∀ (k i : Nat), i + d = p.length → d < k → (∀ j, j < i → 0 ≤ p.getD j 0 ∧ p.getD j 0 ≤ (j : Int)) →
  roadbookref15_May.l0 k p (i : Int) = some (mayB p) := by
 induction d with
 | zero =>
  intro k i hi hk hj
  obtain ⟨k, rfl⟩ : ∃ m, k = m + 1 := ⟨k - 1, by omega⟩
  simp only [roadbookref15_May.l0]
  rw [if_neg (by omega)]
  congr 1
  rw [Bool.eq_iff_iff, decide_eq_true_eq]
  exact ⟨fun h => mayB_of (fun j h' => hj j (by omega)) (by omega), fun h => by have := mayB_len h; omega⟩
 | succ d ih =>
  intro k i hi hk hj
  obtain ⟨k, rfl⟩ : ∃ m, k = m + 1 := ⟨k - 1, by omega⟩
  simp only [roadbookref15_May.l0]
  rw [if_pos (by omega), if_pos (by omega), rd_getD]
  by_cases h1 : p.getD i 0 < 0
  ·rw [if_pos h1]
   cases hb : mayB p
   ·rfl
   ·have := mayB_at hb i (by omega); omega
  rw [if_neg h1]
  by_cases h2 : p.getD i 0 > (i : Int)
  ·rw [if_pos h2]
   cases hb : mayB p
   ·rfl
   ·have := mayB_at hb i (by omega); omega
  rw [if_neg h2, wrap_in (by omega) (by omega)]
  refine ih k (i + 1) (by omega) (by omega) (fun j hj' => ?_)
  rcases Nat.lt_or_eq_of_le (Nat.lt_succ_iff.mp hj') with h | h
  ·exact hj j h
  ·subst h; omega
theorem may15_k (p : List Int) (k : Nat) (hp : p.length ≤ 9223372036854775807) (hk : p.length < k) : roadbookref15_May.f k p = some (mayB p) :=
 may15_loop p hp p.length k 0 (by omega) (by omega) (fun j hj => by omega)
theorem find15_loop (p : List Int) (hm : mayB p = true) : ∀ (f k i : Nat), i < p.length → i ≤ f → f < k → roadbookref15_Find.l0 k p (i : Int) = some ((upN p f i : Nat) : Int)
 | f, 0, i, hi, hf, hk => by omega
 | 0, k + 1, i, hi, hf, hk => by
  have := mayB_at hm i hi
  simp only [roadbookref15_Find.l0]
  rw [if_pos (by omega), if_pos (by omega), rd_getD, if_pos (by omega)]
  rfl
 | f + 1, k + 1, i, hi, hf, hk => by
  have hmi := mayB_at hm i hi
  simp only [roadbookref15_Find.l0]
  rw [if_pos (by omega), if_pos (by omega), rd_getD]
  rw [upN]
  by_cases h : p.getD i 0 = (i : Int)
  ·rw [if_pos h, if_pos h]
  ·rw [if_neg h, if_neg h]
   have := find15_loop p hm f k (p.getD i 0).toNat (by omega) (by omega) (by omega)
   rw [Int.toNat_of_nonneg hmi.1] at this
   exact this
theorem find15_k (p : List Int) (a : Int) (k : Nat) (hp : p.length ≤ 9223372036854775807) (hk : p.length + 1 < k) : roadbookref15_Find.f k p a = some (findS p a) := by
 unfold roadbookref15_Find.f
 rw [may15_k p k hp (by omega), Option.bind_some]
 obtain ⟨k, rfl⟩ : ∃ m, k = m + 1 := ⟨k - 1, by omega⟩
 rcases findS_cases p a with ⟨h1, h2⟩ | ⟨h1, h2, h3, h4⟩
 ·rw [h1]
  by_cases hm : mayB p = true
  ·rw [if_pos hm]
   by_cases h : a < 0
   ·rw [if_pos h]; simp [roadbookref15_Find.j0]
   ·rw [if_neg h]
    have : (p.length : Int) ≤ a := by
     rcases h2 with g | g | g
     ·rw [hm] at g; cases g
     ·exact absurd g h
     ·exact g
    rw [decide_eq_true this]; simp [roadbookref15_Find.j0]
  ·rw [if_neg hm]; simp [roadbookref15_Find.j0]
 ·rw [if_pos h1, if_neg (by omega), decide_eq_false (by omega), h4]
  simp only [roadbookref15_Find.j0, Bool.false_eq_true, if_false]
  obtain ⟨n, rfl⟩ := Int.eq_ofNat_of_zero_le h2
  rw [Int.toNat_natCast]
  exact find15_loop p h1 n k n (by omega) (Nat.le_refl _) (by omega)
theorem roots15_loop (p : List Int) (hm : mayB p = true) (d : Nat) : ∀ (k i : Nat), i + d = p.length → d + p.length + 2 < k →
  roadbookref15_Roots.l0 k p ((List.range i).map fun j => ((rootN p j : Nat) : Int)) true (i : Int) = some ((List.range p.length).map fun j => ((rootN p j : Nat) : Int)) := by
 have hl := mayB_len hm
 induction d with
 | zero =>
  intro k i hi hk
  obtain ⟨k, rfl⟩ : ∃ m, k = m + 1 := ⟨k - 1, by omega⟩
  simp only [roadbookref15_Roots.l0]
  rw [if_neg (by omega), show i = p.length by omega]
 | succ d ih =>
  intro k i hi hk
  obtain ⟨k, rfl⟩ : ∃ m, k = m + 1 := ⟨k - 1, by omega⟩
  simp only [roadbookref15_Roots.l0]
  rw [if_pos (by omega), if_pos trivial, find15_k p _ k (by omega) (by omega), Option.bind_some, if_pos (by simp; omega), wrap_in (by omega) (by omega)]
  have := ih k (i + 1) (by omega) (by omega)
  rw [List.range_succ, List.map_append] at this
  rw [findS_in hm (by omega) (by omega), Int.toNat_natCast]
  exact this
theorem roots15_k (p : List Int) (k : Nat) (hp : p.length ≤ 9223372036854775807) (hk : 2 * p.length + 2 < k) : roadbookref15_Roots.f k p = some (rootsS p) := by
 unfold roadbookref15_Roots.f
 rw [may15_k p k hp (by omega), Option.bind_some]
 unfold rootsS
 by_cases hm : mayB p = true
 ·rw [if_pos hm, hm]
  exact roots15_loop p hm p.length k 0 (by omega) (by omega)
 ·rw [if_neg hm, Bool.eq_false_iff.mpr hm]
  obtain ⟨k, rfl⟩ : ∃ m, k = m + 1 := ⟨k - 1, by omega⟩
  simp only [roadbookref15_Roots.l0]
  by_cases h0 : (0 : Int) < (p.length : Int)
  ·rw [if_pos h0, if_neg (by simp)]
  ·rw [if_neg h0]
theorem same15_k (p q : List Int) (k : Nat) (hp : p.length ≤ 4611686018427387904) (hq : q.length ≤ 4611686018427387904) (h1 : 2 * p.length + 2 < k) (h2 : 2 * q.length + 2 < k) : roadbookref15_Same.f k p q = some (sameB p q) := by
 unfold roadbookref15_Same.f
 have := rootsS_len p
 rw [may15_k p k (by omega) (by omega), may15_k q k (by omega) (by omega), roots15_k p k (by omega) (by omega), roots15_k q k (by omega) (by omega)]
 simp only [Option.bind_some]
 rw [ints_k _ _ k (by omega) (by omega), Option.bind_some]
 unfold sameB
 cases mayB p <;> cases mayB q <;> simp
end Go.Proofs.Ytkidnomkfdnciaa.All
namespace Go.Proofs.Ytkidnomkfdnciaa.All
open Go.RowKit Go.Proofs.YtkidnomkfdnciaaW.PrintWords Go.Proofs.YtkidnomkfdnciaaW.PrintLast Go.Proofs.YtkidnomkfdnciaaW.PrintMore
attribute [local go_sem] max2_int min2_int max_two min_two max_three min_three max_four min_four
set_option linter.unusedVariables false
set_option linter.unusedSimpArgs false
def tellM (x y z : Int) : Int := if z = x ∨ z = y then (if y < x then y else x) else z
def tellJoin.f (k : Nat) (l0 : List Int) (a b : Int) : Option (List Int × Bool) := (roadbookref15_Find.f k l0 a).bind fun x => (roadbookref15_Find.f k l0 b).bind fun y => if x < 0 then some (l0, false) else if y < 0 then some (l0, false) else (roadbookref15_Roots.f k l0).bind fun r => if r.length ≤ 400 then some (r.map (tellM x y), true) else none
theorem tellJoin.mono : ∀ a0 a1 a2 k, LeO (tellJoin.f k a0 a1 a2) (tellJoin.f (k + 1) a0 a1 a2) := by
 intro a0 a1 a2 k
 unfold tellJoin.f
 repeat' first
   | (with_reducible exact roadbookref15_Find.mono _ _ _)
   | (with_reducible exact roadbookref15_Roots.mono _ _)
   | (with_reducible exact LeO.refl _)
   | (with_reducible exact LeO.none _)
   | (with_reducible refine LeO.ite ?_ ?_)
   | (with_reducible refine LeO.bind ?_ (fun _ => ?_))
set_option maxHeartbeats 8000000 in
set_option maxRecDepth 100000 in
theorem tellJoin.no (k : Nat) (A0 : Option Addr) (c0 : Nat) (l0 : List Int) (a1 : Int) (a2 : Int) (x y : Int) (w : World) (hr0 : Kd.C (Kd.int .i64) w A0 l0.length l0) (hc0 : l0.length ≤ c0) (hx : roadbookref15_Find.f k l0 a1 = some x) (hy : roadbookref15_Find.f k l0 a2 = some y) (h : x < 0 ∨ y < 0) :
  Calls Try.prog 30 #[.slice A0 l0.length c0, .int .i64 a1, .int .i64 a2] w fun e w' => e = .returned (.tuple #[.slice A0 l0.length c0, .bool false]) ∧ Kd.C (Kd.int .i64) w' A0 l0.length l0 ∧ Below w.heap.size w w' := by
 have HR0 := Aside0.mk hr0
 have HC0 := Aside0.mk hc0
 have HX := Aside0.mk hx
 have HY := Aside0.mk hy
 have HB := Aside0.mk (Below.refl w.heap.size w)
 clear hr0 hc0 hx hy
 have e12 : (decide (x < 0) = true) ∨ (decide (x < 0) = false ∧ decide (y < 0) = true) := by
  rcases Decidable.em (x < 0) with g | g
  ·exact .inl (decide_eq_true g)
  ·exact .inr ⟨decide_eq_false g, decide_eq_true (h.resolve_left g)⟩
 clear h
 rcases e12 with e1 | ⟨e1, e2⟩
 all_goals
  go_enter Try.func30, Try.ntmps30
  go_wp2_with (first | (go_at_call 32; (with_reducible refine (roadbookref15_Find.calls k A0 c0 l0 a1 x _ (Kd.C_below HR0.out HB.out) HC0.out HX.out).mono ?_); rintro e w1 ⟨rfl, hd⟩; have n_ := Aside0.mk (HB.out.trans (hd.below.mono HB.out.size)); clear HB hd; have HB := n_; clear n_) | (go_at_call 32; (with_reducible refine (roadbookref15_Find.calls k A0 c0 l0 a2 y _ (Kd.C_below HR0.out HB.out) HC0.out HY.out).mono ?_); rintro e w1 ⟨rfl, hd⟩; have n_ := Aside0.mk (HB.out.trans (hd.below.mono HB.out.size)); clear HB hd; have HB := n_; clear n_))
  go_ret2
  exact ⟨rfl, Kd.C_below HR0.out HB.out, HB.out⟩
def Hand {α : Type} (s : Nat) (A : Option Addr) (l : List α) (A' : Option Addr) (l' : List α) : Prop := (A' = A ∧ l' = l) ∨ ∀ ad, A' = some ad → s ≤ ad.block
theorem Hand.mono {α : Type} {s t : Nat} {A A' : Option Addr} {l l' : List α} (h : Hand s A l A' l') (hs : t ≤ s) : Hand t A l A' l' := h.imp id fun h ad e => Nat.le_trans hs (h ad e)
theorem Hand.trans {α : Type} {s : Nat} {A B C : Option Addr} {l m n : List α} (h : Hand s A l B m) (h2 : Hand s B m C n) : Hand s A l C n := by
 rcases h2 with ⟨rfl, rfl⟩ | h2
 ·exact h
 ·exact .inr h2
theorem Hand.refl {α : Type} (s : Nat) (A : Option Addr) (l : List α) : Hand s A l A l := .inl ⟨rfl, rfl⟩
theorem row_fresh {α : Type} {d : Kd α} {w : World} {base e n c : Nat} {ok : Nat → Prop} {A : Option Addr} {xs : List α} (h : Kd.R d e w base ok (.slice A n c) xs) : ∀ ad, A = some ad → base ≤ ad.block := by
 rintro ad rfl
 exact Kd.R_base h ad.block (by simp [Value.ownBlock])
set_option maxHeartbeats 8000000 in
set_option maxRecDepth 100000 in
theorem tellJoin.yes (k : Nat) (A0 : Option Addr) (c0 : Nat) (l0 R0 : List Int) (a1 : Int) (a2 : Int) (x y : Int) (w : World) (hr0 : Kd.C (Kd.int .i64) w A0 l0.length l0) (hc0 : l0.length ≤ c0) (hx : roadbookref15_Find.f k l0 a1 = some x) (hy : roadbookref15_Find.f k l0 a2 = some y) (hrt : roadbookref15_Roots.f k l0 = some R0) (hlen : R0.length ≤ 400) (h1 : ¬ x < 0) (h2 : ¬ y < 0) :
  Calls Try.prog 30 #[.slice A0 l0.length c0, .int .i64 a1, .int .i64 a2] w fun e w' => ∃ A c, e = .returned (.tuple #[.slice A (R0.map (tellM x y)).length c, .bool true]) ∧ (R0.map (tellM x y)).length ≤ c ∧ Kd.C (Kd.int .i64) w' A (R0.map (tellM x y)).length (R0.map (tellM x y)) ∧ (∀ ad, A = some ad → w.heap.size ≤ ad.block) ∧ Below w.heap.size w w' := by
 have HR0 := Aside0.mk hr0
 have HC0 := Aside0.mk hc0
 have HX := Aside0.mk hx
 have HY := Aside0.mk hy
 have HRT := Aside0.mk hrt
 have HB := Aside0.mk (Below.refl w.heap.size w)
 have e1 : decide (x < 0) = false := decide_eq_false h1
 have e2 : decide (y < 0) = false := decide_eq_false h2
 clear hr0 hc0 hx hy hrt h1 h2
 obtain ⟨f, hf⟩ : ∃ f : Int → Int, f = tellM x y := ⟨_, rfl⟩
 rw [← hf]
 have HFF := Aside0.mk hf
 clear hf
 obtain ⟨lo, hlo⟩ : ∃ lo, lo = (if y < x then y else x) := ⟨_, rfl⟩
 have HLO := Aside0.mk hlo
 go_enter Try.func30, Try.ntmps30
 go_upto_if 29 with (first | (go_at_call 32; (with_reducible refine (roadbookref15_Find.calls k A0 c0 l0 a1 x _ (Kd.C_below HR0.out HB.out) HC0.out HX.out).mono ?_); rintro e w1 ⟨rfl, hd⟩; have n_ := Aside0.mk (HB.out.trans (hd.below.mono HB.out.size)); clear HB hd; have HB := n_; clear n_) | (go_at_call 32; (with_reducible refine (roadbookref15_Find.calls k A0 c0 l0 a2 y _ (Kd.C_below HR0.out HB.out) HC0.out HY.out).mono ?_); rintro e w1 ⟨rfl, hd⟩; have n_ := Aside0.mk (HB.out.trans (hd.below.mono HB.out.size)); clear HB hd; have HB := n_; clear n_))
 (try simp only [Act.put, List.setIfInBounds_toArray, List.set_cons_zero, List.set_cons_succ])
 go_cut [10] (fun v wc => v = .int .i64 lo ∧ Aside0 (Below w.heap.size w wc))
 case first =>
  by_cases c : y < x
  ·rw [if_pos c] at hlo
   subst hlo
   have cb : decide (lo < x) = true := decide_eq_true c
   clear c
   rw [cb]
   go_wp2
   go_meet
   case rel => exact ⟨rfl, HB⟩
  ·rw [if_neg c] at hlo
   subst hlo
   have cb : decide (y < lo) = false := decide_eq_false c
   clear c
   rw [cb]
   go_wp2
   go_meet
   case rel => exact ⟨rfl, HB⟩
 case rest =>
 clear HB hlo
 obtain ⟨rfl, HB⟩ := hcut
 go_wp2_with (go_at_call 34; refine (roadbookref15_Roots.calls k A0 c0 l0 R0 _ (Kd.C_below HR0.out HB.out) HC0.out HRT.out).mono ?_; rintro e w3 ⟨v3, rfl, ho3, hb3⟩; have HO3 := Aside0.mk (Kd.R_lower ho3 HB.out.size); have HB3 := Aside0.mk (HB.out.trans (hb3.mono HB.out.size)); clear ho3 hb3; obtain ⟨A2, c2, e3⟩ := Kd.R_slice HO3.out; subst e3)
 go_loopw [12] (fun i wr => ∃ k : Nat, k ≤ R0.length ∧ i = .int .i64 k ∧ Aside0 (Kd.R (Kd.int .i64) 3 wr w.heap.size (fun _ => True) (.slice A2 R0.length c2) (midF f R0 k)) ∧ Aside0 (Below w.heap.size w wr)) (fun i _ => R0.length - (intOf i).toNat)
 case atStart => exact ⟨0, Nat.zero_le _, rfl, ⟨by rw [midF_zero]; exact HO3.out⟩, HB3⟩
 case round =>
  obtain ⟨k, hk, rfl, HO, HBr⟩ := hrel
  by_cases hlt : k < R0.length
  ·obtain ⟨g, c3, e3, hgb, hgl, _⟩ := Kd.R_form HO.out (by rw [midF_length]; omega)
   have e4 : A2 = some ⟨g, 0, none⟩ := by injection e3
   subst e4
   clear e3
   have hc1 := Kd.R_celln (0 : Int) HO.out (k : Int) (by omega) (by omega)
   have hmid := midF_at f R0 k k hlt
   rw [if_neg (by omega)] at hmid
   obtain ⟨r, hr⟩ : ∃ r, r = R0.getD k 0 := ⟨_, rfl⟩
   rw [← hr] at hmid
   simp only [rdOf, Int.toNat_natCast, hmid] at hc1
   obtain ⟨hc1, hf1⟩ := hc1
   by_cases he : r = x ∨ r = y
   ·have eb : ((r == x) = true) ∨ ((r == x) = false ∧ (r == y) = true) := by
     rcases Decidable.em (r = x) with g | g
     ·exact .inl (by rw [beq_iff_eq]; exact g)
     ·exact .inr ⟨by rw [beq_eq_false_iff_ne]; exact g, by rw [beq_iff_eq]; exact he.resolve_left g⟩
    have hfr : f (R0.getD k 0) = lo := by rw [← hr, HFF.out, tellM, if_pos he]; exact HLO.out.symm
    have hp := Kd.R_putg HO.out (k : Int) lo
    rw [Int.toNat_natCast, ← hfr, midF_succ f R0 k hlt, hfr] at hp
    have HP := Aside0.mk hp
    have HS := Aside0.mk (show Below w.heap.size w (wr.setCell ⟨g, k, none⟩ (.int .i64 lo)) from below_set HBr.out hgb)
    clear hr hmid he hfr hp
    rcases eb with eb | ⟨eb, eb2⟩
    all_goals
     go_wp2
     go_roundw
     case rel => exact ⟨k + 1, by omega, by go_num, ⟨HP.out.1⟩, HS⟩
     case measure => simp [intOf]; omega
   ·have eb : (r == x) = false := by rw [beq_eq_false_iff_ne]; exact fun h_ => he (.inl h_)
    have eb2 : (r == y) = false := by rw [beq_eq_false_iff_ne]; exact fun h_ => he (.inr h_)
    have hfr : f (R0.getD k 0) = R0.getD k 0 := by rw [← hr, HFF.out, tellM, if_neg he]
    have HSK := Aside0.mk (midF_skip f R0 k hlt hfr)
    clear hr hmid he hfr
    go_wp2
    go_roundw
    case rel => exact ⟨k + 1, by omega, by go_num, ⟨by rw [← HSK.out]; exact HO.out⟩, HBr⟩
    case measure => simp [intOf]; omega
  ·obtain rfl : k = R0.length := by omega
   go_wp2
   go_ret2
   have hlm : (R0.map f).length = R0.length := List.length_map _
   have hz := HO.out
   rw [midF_all] at hz
   rw [hlm]
   have hz' := Kd.R_reads' hz
   rw [hlm] at hz'
   exact ⟨_, _, rfl, hz'.2.1, hz'.2.2, row_fresh hz, HBr.out⟩
theorem tellJoin.hand (k : Nat) (A0 : Option Addr) (c0 : Nat) (l0 : List Int) (a1 : Int) (a2 : Int) (r1 : List Int) (r2 : Bool) (w : World) (hr0 : Kd.C (Kd.int .i64) w A0 l0.length l0) (hc0 : l0.length ≤ c0) (h : tellJoin.f k l0 a1 a2 = some (r1, r2)) :
  Calls Try.prog 30 #[.slice A0 l0.length c0, .int .i64 a1, .int .i64 a2] w fun e w' => ∃ A c, e = .returned (.tuple #[.slice A r1.length c, .bool r2]) ∧ r1.length ≤ c ∧ Kd.C (Kd.int .i64) w' A r1.length r1 ∧ Hand w.heap.size A0 l0 A r1 ∧ Below w.heap.size w w' := by
 unfold tellJoin.f at h
 obtain ⟨x, hx, h⟩ := Option.bind_eq_some_iff.mp h
 obtain ⟨y, hy, h⟩ := Option.bind_eq_some_iff.mp h
 by_cases h1 : x < 0
 ·rw [if_pos h1] at h
  obtain ⟨rfl, rfl⟩ := Prod.mk.inj (Option.some.inj h)
  refine (tellJoin.no k A0 c0 l0 a1 a2 x y w hr0 hc0 hx hy (.inl h1)).mono ?_
  rintro e w' ⟨rfl, h2, h3⟩
  exact ⟨_, _, rfl, hc0, h2, Hand.refl _ _ _, h3⟩
 ·rw [if_neg h1] at h
  by_cases h2 : y < 0
  ·rw [if_pos h2] at h
   obtain ⟨rfl, rfl⟩ := Prod.mk.inj (Option.some.inj h)
   refine (tellJoin.no k A0 c0 l0 a1 a2 x y w hr0 hc0 hx hy (.inr h2)).mono ?_
   rintro e w' ⟨rfl, h2, h3⟩
   exact ⟨_, _, rfl, hc0, h2, Hand.refl _ _ _, h3⟩
  ·rw [if_neg h2] at h
   obtain ⟨r, hr, h⟩ := Option.bind_eq_some_iff.mp h
   by_cases h3 : r.length ≤ 400
   ·rw [if_pos h3] at h
    obtain ⟨rfl, rfl⟩ := Prod.mk.inj (Option.some.inj h)
    exact (tellJoin.yes k A0 c0 l0 r a1 a2 x y w hr0 hc0 hx hy hr h3 h1 h2).mono fun e w' ⟨A, c, he, hl, hC, hn, hb⟩ => ⟨A, c, he, hl, hC, .inr hn, hb⟩
   ·rw [if_neg h3] at h; cases h
theorem tellJoin.calls (k : Nat) (A0 : Option Addr) (c0 : Nat) (l0 : List Int) (a1 : Int) (a2 : Int) (r1 : List Int) (r2 : Bool) (w : World) (hr0 : Kd.C (Kd.int .i64) w A0 l0.length l0) (hc0 : l0.length ≤ c0) (h : tellJoin.f k l0 a1 a2 = some (r1, r2)) :
  Calls Try.prog 30 #[.slice A0 l0.length c0, .int .i64 a1, .int .i64 a2] w fun e w' => ∃ A c, e = .returned (.tuple #[.slice A r1.length c, .bool r2]) ∧ r1.length ≤ c ∧ Kd.C (Kd.int .i64) w' A r1.length r1 ∧ Below w.heap.size w w' :=
 (tellJoin.hand k A0 c0 l0 a1 a2 r1 r2 w hr0 hc0 h).mono fun e w' ⟨A, c, he, hl, hC, _, hb⟩ => ⟨A, c, he, hl, hC, hb⟩
end Go.Proofs.Ytkidnomkfdnciaa.All
namespace Go.Proofs.Ytkidnomkfdnciaa.All
open Go.RowKit Go.Proofs.YtkidnomkfdnciaaW.PrintWords
open Go.Maps (Keyed IsMap)
theorem laidOutK : laidOutB Try.prog = true := by kernel_rfl
theorem typesK : Try.prog.types.size + 1 + 1 ≤ 10000 := of_decide_eq_true (by kernel_rfl)
theorem rowK : 48 < Try.prog.types.size := of_decide_eq_true (by kernel_rfl)
theorem keyTypeK : Try.prog.keyTypeAt (Try.prog.types.size + 1) 48 = true := by kernel_rfl
theorem keyTypeK' : Try.prog.keyType 48 = true := keyTypeK
theorem wideK : (match Try.prog.underlying 48 with | some (.array _ _) | some (.struct _) => true | _ => false) = true := by kernel_rfl
set_option maxRecDepth 1000000 in
theorem nodeLaw : Keyed Try.prog 48 := Keyed.of_law (deep_law_laid laidOutK typesK rowK keyTypeK wideK)
theorem cells48K : Try.prog.cellsOf 48 = 4 := by kernel_rfl
theorem cells3K : Try.prog.cellsOf 3 = 1 := by kernel_rfl
theorem cells4K : Try.prog.cellsOf 4 = 1 := by kernel_rfl
theorem zero3 (w : World) : (zeroValue 3).run Try.prog w = .ok (.int .i64 0) w := by kernel_rfl
def NV (x : S48) : Value := .agg #[.bool x.f0, .int .i64 x.f1, .int .i64 x.f2, .int .i64 x.f3]
def wfN (x : S48) : Bool := (Lit.int .i64 x.f1).wf && (Lit.int .i64 x.f2).wf && (Lit.int .i64 x.f3).wf
theorem NV_inj {x y : S48} (h : NV x = NV y) : x = y := by
 obtain ⟨a, b, c, d⟩ := x
 obtain ⟨a', b', c', d'⟩ := y
 simp only [NV, Value.agg.injEq, Array.mk.injEq, List.cons.injEq, Value.bool.injEq, Value.int.injEq, and_true, true_and] at h
 obtain ⟨rfl, rfl, rfl, rfl⟩ := h
 rfl
theorem lits_bool (d : Nat) (b : Bool) : Try.prog.keyLits (d + 1) 4 [.bool b] = some [.bool b] := by
 simp only [Program.keyLits, Try.underlying4]
theorem lits_int (d : Nat) (n : Int) (h : (Lit.int .i64 n).wf = true) : Try.prog.keyLits (d + 1) 3 [.int .i64 n] = some [.int .i64 n] := by
 simp only [Program.keyLits, Try.underlying3, h, and_self, if_true]
theorem key_some (x : S48) (h : wfN x = true) : ∃ l, keyOf Try.prog 48 (NV x) = some l := by
 simp only [wfN, Bool.and_eq_true] at h
 obtain ⟨⟨h1, h2⟩, h3⟩ := h
 have hf : (NV x).formed Try.prog 48 = true := by
  simp only [NV, Value.formed, Try.underlying48, cells48K]
  rfl
 have hl : ∃ ls, Try.prog.keyLits (Try.prog.types.size + 1) 48 (NV x).cells.toList = some ls := by
  obtain ⟨d, hd⟩ : ∃ d, Try.prog.types.size = d + 1 := ⟨Try.prog.types.size - 1, by have := rowK; omega⟩
  rw [hd]
  unfold Program.keyLits
  simp only [Try.underlying48, NV, Value.cells, cells48K]
  rw [if_pos ⟨rfl, by decide +kernel⟩]
  simp [lits_bool, lits_int, h1, h2, h3, List.mapM_cons, cells3K, cells4K]
 obtain ⟨ls, hl⟩ := hl
 refine ⟨.string (keyBytes ls), ?_⟩
 unfold keyOf
 rw [Try.underlying48]
 simp only [keyTypeK', hf, Bool.and_self, if_true, hl, Option.map_some]
theorem lit_inj {a c : Int} (h : (DataW.lit (.int .i64 a) : DataW Empty) = .lit (.int .i64 c)) : a = c := (Lit.int.inj (DataW.lit.inj h)).2
def NMap (w : World) (b : Nat) (f : S48 → Option Nat) (n : Nat) : Prop :=
 ∃ D : DataW Empty, w.ownsMap Try.prog 48 (plainElem Try.prog 3) b n D ∧ IsMap D ∧
  ∀ x l, wfN x = true → keyOf Try.prog 48 (NV x) = some l → Maps.has D l = (f x).isSome ∧ ∀ i, f x = some i → ∀ z, D.atKey l z = .lit (.int .i64 (i : Int))
def atN (f : S48 → Option Nat) (x : S48) : Int := match f x with | some i => (i : Int) | none => 0
theorem NMap.lt {w : World} {b n : Nat} {f : S48 → Option Nat} (h : NMap w b f n) : b < w.heap.size := by
 obtain ⟨D, h, _⟩ := h
 exact h.lt
theorem NMap.below {w w' : World} {b n : Nat} {f : S48 → Option Nat} (h : NMap w b f n) (hb : Below w.heap.size w w') : NMap w' b f n := by
 obtain ⟨D, h, r⟩ := h
 exact ⟨D, h.kept (grown_of_below hb none) (by simp), r⟩
theorem NMap.new (w : World) : NMap (w.alloc (.map #[] 0)) w.heap.size (fun _ => none) 0 :=
 ⟨.map [], World.ownsMap_made w _ _ _, Go.Maps.isMap_empty, fun x l _ _ => ⟨rfl, fun i h => by cases h⟩⟩
theorem NMap.congr {w : World} {b n : Nat} {f g : S48 → Option Nat} (h : NMap w b f n) (e : ∀ x, wfN x = true → f x = g x) : NMap w b g n := by
 obtain ⟨D, h, hm, r⟩ := h
 exact ⟨D, h, hm, fun x l hw hl => by rw [← e x hw]; exact r x l hw hl⟩
section
variable {ops : Array Oper} {rest : List Oper} {o : Oper} {a : Act} {Q : Exit → Act → World → Prop}
theorem NMap.look_ok {w : World} {b n : Nat} {f : S48 → Option Nat} (h : NMap w b f n) (hg : o.guard = none) (m x : Operand) (hop : o.op = Op.lookup 90 m x true) (hm : a.eval m = .map (some b)) (key : S48) (hx : a.eval x = NV key) (hw : wfN key = true)
  (hK : wpList Try.prog ops Q rest (a.put o.dst (.tuple #[.int .i64 (atN f key), .bool (f key).isSome])) w) : wpList Try.prog ops Q (o :: rest) a w := by
 obtain ⟨D, ho, hD, r⟩ := h
 obtain ⟨l, hl⟩ := key_some key hw
 obtain ⟨r1, r2⟩ := r key l hw hl
 refine Go.wpList_lookup_own_ok_int w hg m x 90 hop 48 3 .i64 nodeLaw Try.underlying90 Try.underlying3 (zero3 w) b n D hm ho (NV key) l hx hl ?_
 intro c hc _
 rw [r1]
 have : c = atN f key := by
  unfold atN
  cases hf : f key with
  | some i => rw [r2 i hf] at hc; exact (lit_inj hc).symm
  | none =>
   rw [Go.Maps.atKey_of_not_has (by rw [r1, hf]; rfl)] at hc
   exact (lit_inj hc).symm
 rw [this]
 exact hK
theorem NMap.put_ {w : World} {b n : Nat} {f : S48 → Option Nat} (h : NMap w b f n) (hg : o.guard = none) (m x v : Operand) (hop : o.op = Op.mapUpdate 90 m x v) (hm : a.eval m = .map (some b)) (key : S48) (hx : a.eval x = NV key) (hw : wfN key = true)
  (i : Nat) (hv : a.eval v = .int .i64 (i : Int)) (hi : i < 1000000) (hn : n < 1000000)
  (hK : ∀ w', NMap w' b (fun y => if y = key then some i else f y) (n + 1) → w.grownBy w' (some b) → wpList Try.prog ops Q rest (a.put o.dst undef) w') : wpList Try.prog ops Q (o :: rest) a w := by
 obtain ⟨D, ho, hD, r⟩ := h
 obtain ⟨l, hl⟩ := key_some key hw
 refine Go.wpList_mapUpdate_own w hg m x v 90 hop 48 3 nodeLaw Try.underlying90 (plainElem Try.prog 3) b n D hm ho (by simp only [maxLen]; omega) (NV key) (.int .i64 (i : Int)) l hx hv hl (.lit (.int .i64 (i : Int))) []
  (plainElem_int Try.underlying3 (by simp [Lit.wf, IntKind.min, IntKind.max, IntKind.signed, IntKind.bits]; omega)) ?_
 intro w' ho' hg'
 refine hK w' ⟨_, ho', hD.put _ _, fun y ly hwy hly => ?_⟩ hg'
 by_cases he : y = key
 ·subst he
  obtain rfl : l = ly := by rw [hl] at hly; exact Option.some.inj hly
  dsimp only
  rw [if_pos rfl]
  refine ⟨Go.Maps.has_put_same hD (nodeLaw.key hl) _, fun j hj z => ?_⟩
  obtain rfl := Option.some.inj hj
  exact Go.Maps.atKey_put_same hD (nodeLaw.key hl) _ _
 ·have hne : ly ≠ l := fun e => he (NV_inj (nodeLaw.inj (e ▸ hly) hl))
  dsimp only
  rw [if_neg he]
  obtain ⟨r1, r2⟩ := r y ly hwy hly
  exact ⟨by rw [Go.Maps.has_put_other hne]; exact r1, fun j hj z => by rw [Go.Maps.atKey_put_other hne]; exact r2 j hj z⟩
end
end Go.Proofs.Ytkidnomkfdnciaa.All
namespace Go.Proofs.Ytkidnomkfdnciaa.All
open Go.RowKit Go.Proofs.YtkidnomkfdnciaaW.PrintWords Go.Proofs.YtkidnomkfdnciaaW.PrintLast Go.Proofs.YtkidnomkfdnciaaW.PrintMore
attribute [local go_sem] max2_int min2_int max_two min_two max_three min_three max_four min_four
set_option linter.unusedVariables false
set_option linter.unusedSimpArgs false
def memo_canon.f (a0_0 : Bool) (a0_1 : Int) (a0_2 : Int) (a0_3 : Int) (l1 : List Int) : Option (Bool × Int × Int × Int) :=
 if a0_0 = true then (if (inB l1 a0_2 && inB l1 a0_3) = true then some (a0_0, a0_1, rd l1 a0_2, rd l1 a0_3) else none) else some (a0_0, a0_1, a0_2, a0_3)
set_option maxHeartbeats 8000000 in
set_option maxRecDepth 100000 in
theorem canon_no (a1 a2 a3 : Int) (A1 : Option Addr) (c1 : Nat) (n1 : Nat) (w : World) :
  Calls Try.prog 79 #[.agg #[.bool false, .int .i64 a1, .int .i64 a2, .int .i64 a3], .slice A1 n1 c1] w fun e w' => e = .returned (.agg #[.bool false, .int .i64 a1, .int .i64 a2, .int .i64 a3]) ∧ Below w.heap.size w w' := by
 go_enter Try.func79, Try.ntmps79
 go_wp2
 exact bodyPost_ret (v := .agg #[.bool false, .int .i64 a1, .int .i64 a2, .int .i64 a3]) (by simp [results, Try.results79, go_sem]) rfl ⟨rfl, ((Below.refl _ _).alloc (Nat.le_refl _) _).alloc (by simp) _⟩
set_option maxHeartbeats 8000000 in
set_option maxRecDepth 100000 in
theorem canon_yes (a1 a2 a3 : Int) (A1 : Option Addr) (c1 : Nat) (l1 : List Int) (w : World) (hr1 : Kd.C (Kd.int .i64) w A1 l1.length l1) (hc1 : l1.length ≤ c1) (h2 : 0 ≤ a2) (h2' : a2 < l1.length) (h3 : 0 ≤ a3) (h3' : a3 < l1.length) :
  Calls Try.prog 79 #[.agg #[.bool true, .int .i64 a1, .int .i64 a2, .int .i64 a3], .slice A1 l1.length c1] w fun e w' => e = .returned (.agg #[.bool true, .int .i64 a1, .int .i64 (rd l1 a2), .int .i64 (rd l1 a3)]) ∧ Below w.heap.size w w' := by
 obtain ⟨ad, rfl, hca⟩ := Kd.at_int hr1 a2 h2 h2'
 obtain ⟨ad', e, hcb⟩ := Kd.at_int hr1 a3 h3 h3'
 cases e
 obtain ⟨x, hx⟩ : ∃ x, x = rd l1 a2 := ⟨_, rfl⟩
 obtain ⟨y, hy⟩ : ∃ y, y = rd l1 a3 := ⟨_, rfl⟩
 rw [← hx] at hca ⊢
 rw [← hy] at hcb ⊢
 have hxa : ∀ o1 o2, ((w.alloc o1).alloc o2).cell? (ad.add a2.toNat) = some (.int .i64 x) := fun o1 o2 => (Kd.at_int (Kd.C_alloc (Kd.C_alloc hr1 o1) o2) a2 h2 h2').elim fun _ h => by cases h.1; rw [hx]; exact h.2
 have hxb : ∀ o1 o2, ((w.alloc o1).alloc o2).cell? (ad.add a3.toNat) = some (.int .i64 y) := fun o1 o2 => (Kd.at_int (Kd.C_alloc (Kd.C_alloc hr1 o1) o2) a3 h3 h3').elim fun _ h => by cases h.1; rw [hy]; exact h.2
 clear hr1 hc1 hx hy hca hcb
 go_enter Try.func79, Try.ntmps79
 go_wp2
 go_region
 go_wp2
 refine bodyPost_ret (v := .agg #[.bool true, .int .i64 a1, .int .i64 x, .int .i64 y]) (by simp [results, Try.results79, go_sem]) rfl ⟨rfl, ?_⟩
 repeat (first | exact Below.refl _ _ | refine Below.drew ?_ | refine Below.alloc ?_ (by simp) _)
theorem memo_canon.calls (a0_0 : Bool) (a0_1 : Int) (a0_2 : Int) (a0_3 : Int) (A1 : Option Addr) (c1 : Nat) (l1 : List Int) (r1 : Bool) (r2 : Int) (r3 : Int) (r4 : Int) (w : World) (hr1 : Kd.C (Kd.int .i64) w A1 l1.length l1) (hc1 : l1.length ≤ c1) (h : memo_canon.f a0_0 a0_1 a0_2 a0_3 l1 = some (r1, r2, r3, r4)) :
  Calls Try.prog 79 #[.agg #[.bool a0_0, .int .i64 a0_1, .int .i64 a0_2, .int .i64 a0_3], .slice A1 l1.length c1] w fun e w' => e = .returned (.agg #[.bool r1, .int .i64 r2, .int .i64 r3, .int .i64 r4]) ∧ Below w.heap.size w w' := by
 unfold memo_canon.f at h
 cases a0_0 with
 | false =>
  have h := Option.some.inj h
  obtain ⟨rfl, rfl, rfl, rfl⟩ := h
  exact canon_no _ _ _ _ _ _ _
 | true =>
  rw [if_pos rfl] at h
  split at h
  ·rename_i hh
   have h := Option.some.inj h
   obtain ⟨rfl, rfl, rfl, rfl⟩ := h
   simp only [Bool.and_eq_true, inB, decide_eq_true_eq] at hh
   exact canon_yes _ _ _ _ _ _ _ hr1 hc1 hh.1.1 hh.1.2 hh.2.1 hh.2.2
  ·cases h
end Go.Proofs.Ytkidnomkfdnciaa.All
namespace Go.Proofs.Ytkidnomkfdnciaa.All
open Go.RowKit Go.Proofs.YtkidnomkfdnciaaW.PrintWords Go.Proofs.YtkidnomkfdnciaaW.PrintLast Go.Proofs.YtkidnomkfdnciaaW.PrintMore
attribute [local go_sem] max2_int min2_int max_two min_two max_three min_three max_four min_four
set_option linter.unusedVariables false
set_option linter.unusedSimpArgs false
def memo_is.f (l0_0 : List (S48)) (l0_1 : List Int) (l0_2 : List Int) (a1 : Int) : Option (Bool) := if a1 ≥ 0 then (some (decide (a1 < (l0_2.length : Int)))) else (some false)
set_option maxHeartbeats 8000000 in
set_option maxRecDepth 100000 in
theorem memo_is.calls (A0_0 : Option Addr) (c0_0 : Nat) (l0_0 : List (S48)) (A0_1 : Option Addr) (c0_1 : Nat) (l0_1 : List Int) (A0_2 : Option Addr) (c0_2 : Nat) (l0_2 : List Int) (a1 : Int) (r : Bool) (w : World) (hr0_0 : Kd.C k48 w A0_0 l0_0.length l0_0) (hc0_0 : l0_0.length ≤ c0_0) (hr0_1 : Kd.C (Kd.int .i64) w A0_1 l0_1.length l0_1) (hc0_1 : l0_1.length ≤ c0_1) (hr0_2 : Kd.C (Kd.int .i64) w A0_2 l0_2.length l0_2) (hc0_2 : l0_2.length ≤ c0_2) (h : memo_is.f l0_0 l0_1 l0_2 a1 = some r) :
  Calls Try.prog 74 #[.agg #[.slice A0_0 l0_0.length c0_0, .slice A0_1 l0_1.length c0_1, .slice A0_2 l0_2.length c0_2], .int .i64 a1] w fun e w' => e = .returned (.bool r) ∧ Below w.heap.size w w' := by
 have hu38 := Try.underlying38
 have HR0_0 := Aside0.mk hr0_0
 have HC0_0 := Aside0.mk hc0_0
 clear hr0_0 hc0_0
 have HR0_1 := Aside0.mk hr0_1
 have HC0_1 := Aside0.mk hc0_1
 clear hr0_1 hc0_1
 have HR0_2 := Aside0.mk hr0_2
 have HC0_2 := Aside0.mk hc0_2
 clear hr0_2 hc0_2
 have HB := Aside0.mk (Below.refl w.heap.size w)
 have H : (if a1 ≥ 0 then (some (decide (a1 < (l0_2.length : Int)))) else (some false)) = some r := h
 clear h
 by_cases c3 : a1 ≥ 0
 ·rw [if_pos c3] at H
  have c3b0 : decide (0 ≤ a1) = true := decide_eq_true c3
  clear c3
  obtain rfl := Option.some.inj H
  go_enter Try.func74, Try.ntmps74
  go_wp2_with (first | ((with_reducible refine gate_dst (N := 2) rfl ?_); (try (refine gate_guard (by rfl) ?_; dsimp only)); refine box_event ?hg (N := 2) ?hd (cs := #[.slice A0_0 l0_0.length c0_0, .slice A0_1 l0_1.length c0_1, .slice A0_2 l0_2.length c0_2]) (t := 38) ?hr ?_; (case hd => rfl); (case hg => rfl); (case hr => first | (go_simp; done) | (go_simp; rfl)); intro gb11 hg w4 hbox hb; have n0_ := Aside0.mk (below_step (by repeat (first | (with_reducible first | exact HB.out | apply below_alloc | apply pw_below_drewN | apply below_drew1) | exact HB.out)) hb); have n1_ := Aside0.mk (hbox); have n2_ := Aside0.mk ((by rw [hg]; exact (below_size (by repeat (first | (with_reducible first | exact HB.out | apply below_alloc | apply pw_below_drewN | apply below_drew1) | exact HB.out))) : w.heap.size ≤ gb11)); have n3_ := Aside0.mk ((by rw [hg]; exact (below_size (by repeat (first | (with_reducible first | exact HB.out | apply below_alloc | apply pw_below_drewN | apply below_drew1) | exact HB.out))) : w.heap.size ≤ gb11)); clear HB; have HB := n0_; have BK11 := n1_; have GW11 := n2_; have GE11 := n3_; clear n0_ n1_ n2_ n3_; clear hb hbox hg; have hcz5_0 : w4.cell? ⟨gb11, 0, none⟩ = some (.slice A0_0 l0_0.length c0_0) := (blk_cell BK11.out 0).trans rfl; have hcz5_1 : w4.cell? ⟨gb11, 1, none⟩ = some (.slice A0_1 l0_1.length c0_1) := (blk_cell BK11.out 1).trans rfl; have hcz5_2 : w4.cell? ⟨gb11, 2, none⟩ = some (.slice A0_2 l0_2.length c0_2) := (blk_cell BK11.out 2).trans rfl; have hfz5_0 := blk_frozen BK11.out 0; have hfz5_1 := blk_frozen BK11.out 1; have hfz5_2 := blk_frozen BK11.out 2))
  go_ret
  exact ⟨by first | rfl | (simp [errW_none, errW_some] <;> rfl) | (simp [*, errW_none, errW_some] <;> rfl), by repeat (first | (with_reducible first | exact HB.out | apply below_alloc | apply pw_below_drewN | apply below_drew1 | refine below_set ?_ GE11.out) | exact HB.out)⟩
 ·rw [if_neg c3] at H
  have c3b0 : decide (0 ≤ a1) = false := decide_eq_false c3
  clear c3
  obtain rfl := Option.some.inj H
  go_enter Try.func74, Try.ntmps74
  go_wp2_with (first | ((with_reducible refine gate_dst (N := 2) rfl ?_); (try (refine gate_guard (by rfl) ?_; dsimp only)); refine box_event ?hg (N := 2) ?hd (cs := #[.slice A0_0 l0_0.length c0_0, .slice A0_1 l0_1.length c0_1, .slice A0_2 l0_2.length c0_2]) (t := 38) ?hr ?_; (case hd => rfl); (case hg => rfl); (case hr => first | (go_simp; done) | (go_simp; rfl)); intro gb11 hg w6 hbox hb; have n0_ := Aside0.mk (below_step (by repeat (first | (with_reducible first | exact HB.out | apply below_alloc | apply pw_below_drewN | apply below_drew1) | exact HB.out)) hb); have n1_ := Aside0.mk (hbox); have n2_ := Aside0.mk ((by rw [hg]; exact (below_size (by repeat (first | (with_reducible first | exact HB.out | apply below_alloc | apply pw_below_drewN | apply below_drew1) | exact HB.out))) : w.heap.size ≤ gb11)); have n3_ := Aside0.mk ((by rw [hg]; exact (below_size (by repeat (first | (with_reducible first | exact HB.out | apply below_alloc | apply pw_below_drewN | apply below_drew1) | exact HB.out))) : w.heap.size ≤ gb11)); clear HB; have HB := n0_; have BK11 := n1_; have GW11 := n2_; have GE11 := n3_; clear n0_ n1_ n2_ n3_; clear hb hbox hg))
  go_ret
  exact ⟨by first | rfl | (simp [errW_none, errW_some] <;> rfl) | (simp [*, errW_none, errW_some] <;> rfl), by repeat (first | (with_reducible first | exact HB.out | apply below_alloc | apply pw_below_drewN | apply below_drew1 | refine below_set ?_ GE11.out) | exact HB.out)⟩
end Go.Proofs.Ytkidnomkfdnciaa.All
namespace Go.Proofs.Ytkidnomkfdnciaa.All
open Go.RowKit Go.Proofs.YtkidnomkfdnciaaW.PrintWords
section
variable {w : World} {g : Nat} {t : TypeId}
theorem bk2 {x0 x1 : Value} (h : w.heap[g]? = some (.cells #[x0, x1] t (0, 0))) : w.cell? ⟨g, 0, none⟩ = some x0 ∧ w.cell? ⟨g, 1, none⟩ = some x1 ∧ w.frozen? ⟨g, 0, none⟩ = false ∧ w.frozen? ⟨g, 1, none⟩ = false :=
 ⟨(blk_cell h 0).trans rfl, (blk_cell h 1).trans rfl, blk_frozen h 0, blk_frozen h 1⟩
theorem bk3 {x0 x1 x2 : Value} (h : w.heap[g]? = some (.cells #[x0, x1, x2] t (0, 0))) : w.cell? ⟨g, 0, none⟩ = some x0 ∧ w.cell? ⟨g, 1, none⟩ = some x1 ∧ w.cell? ⟨g, 2, none⟩ = some x2 ∧ w.frozen? ⟨g, 0, none⟩ = false ∧ w.frozen? ⟨g, 1, none⟩ = false ∧ w.frozen? ⟨g, 2, none⟩ = false :=
 ⟨(blk_cell h 0).trans rfl, (blk_cell h 1).trans rfl, (blk_cell h 2).trans rfl, blk_frozen h 0, blk_frozen h 1, blk_frozen h 2⟩
theorem bk4 {x0 x1 x2 x3 : Value} (h : w.heap[g]? = some (.cells #[x0, x1, x2, x3] t (0, 0))) : w.cell? ⟨g, 0, none⟩ = some x0 ∧ w.cell? ⟨g, 1, none⟩ = some x1 ∧ w.cell? ⟨g, 2, none⟩ = some x2 ∧ w.cell? ⟨g, 3, none⟩ = some x3 ∧ w.frozen? ⟨g, 0, none⟩ = false ∧ w.frozen? ⟨g, 1, none⟩ = false ∧ w.frozen? ⟨g, 2, none⟩ = false ∧ w.frozen? ⟨g, 3, none⟩ = false :=
 ⟨(blk_cell h 0).trans rfl, (blk_cell h 1).trans rfl, (blk_cell h 2).trans rfl, (blk_cell h 3).trans rfl, blk_frozen h 0, blk_frozen h 1, blk_frozen h 2, blk_frozen h 3⟩
theorem bk7 {x0 x1 x2 x3 x4 x5 x6 : Value} (h : w.heap[g]? = some (.cells #[x0, x1, x2, x3, x4, x5, x6] t (0, 0))) : w.cell? ⟨g, 0, none⟩ = some x0 ∧ w.cell? ⟨g, 1, none⟩ = some x1 ∧ w.cell? ⟨g, 2, none⟩ = some x2 ∧ w.cell? ⟨g, 3, none⟩ = some x3 ∧ w.cell? ⟨g, 4, none⟩ = some x4 ∧ w.cell? ⟨g, 5, none⟩ = some x5 ∧ w.cell? ⟨g, 6, none⟩ = some x6 ∧ w.frozen? ⟨g, 0, none⟩ = false ∧ w.frozen? ⟨g, 1, none⟩ = false ∧ w.frozen? ⟨g, 2, none⟩ = false ∧ w.frozen? ⟨g, 3, none⟩ = false ∧ w.frozen? ⟨g, 4, none⟩ = false ∧ w.frozen? ⟨g, 5, none⟩ = false ∧ w.frozen? ⟨g, 6, none⟩ = false :=
 ⟨(blk_cell h 0).trans rfl, (blk_cell h 1).trans rfl, (blk_cell h 2).trans rfl, (blk_cell h 3).trans rfl, (blk_cell h 4).trans rfl, (blk_cell h 5).trans rfl, (blk_cell h 6).trans rfl, blk_frozen h 0, blk_frozen h 1, blk_frozen h 2, blk_frozen h 3, blk_frozen h 4, blk_frozen h 5, blk_frozen h 6⟩
end
end Go.Proofs.Ytkidnomkfdnciaa.All
