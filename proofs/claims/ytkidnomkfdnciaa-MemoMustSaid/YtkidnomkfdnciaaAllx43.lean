/- Functions of the program as plain Lean functions, and proofs that the calls do what these say; written for this claim by a program of the session (wip/tools/mkprint.py), checked by Lean. -/
import Derived.Test.YtkidnomkfdnciaaAllx0
import Derived.Test.YtkidnomkfdnciaaAllx4
import Derived.Test.YtkidnomkfdnciaaAllx9
import Derived.Test.YtkidnomkfdnciaaAllx10
import Derived.Test.YtkidnomkfdnciaaAllx13
import Derived.Test.YtkidnomkfdnciaaAllx32
import Derived.Test.YtkidnomkfdnciaaAllx35
namespace Go.Proofs.Ytkidnomkfdnciaa.All
open Go.RowKit Go.Proofs.YtkidnomkfdnciaaW.PrintWords Go.Proofs.YtkidnomkfdnciaaW.PrintLast Go.Proofs.YtkidnomkfdnciaaW.PrintMore
attribute [local go_sem] max2_int min2_int max_two min_two max_three min_three max_four min_four   -- for this text's walks alone
set_option linter.unusedVariables false
set_option linter.unusedSimpArgs false

/-! ### roadbooklaw16_MemoMust: function 9 -/
mutual
def roadbooklaw16_MemoMust.j0 : Nat → Int → Int → List Int → Bool → Bool → List (S48) → List Int → List Int → List (S48) → List Int → List Int → Option (Bool)
  | 0, _, _, _, _, _, _, _, _, _, _, _ => none
  | k + 1, x1, x2, x3, x9, x50, x12000, x12001, x12002, x26000, x26001, x26002 => if x50 = true then (some x9) else (roadbooklaw16_MemoMust.l0 k x1 x2 x3 0 x12000 x12001 x12002 x26000 x26001 x26002 x12000 x12001 x3)
def roadbooklaw16_MemoMust.l0 : Nat → Int → Int → List Int → Int → List (S48) → List Int → List Int → List (S48) → List Int → List Int → List (S48) → List Int → List Int → Option (Bool)
  | 0, _, _, _, _, _, _, _, _, _, _, _, _, _ => none
  | k + 1, x1, x2, x3, x15, x12000, x12001, x12002, x26000, x26001, x26002, x28000, x28001, x28002 => if x15 < (x12002.length : Int) then ((sets_Find.f k x3 x15).bind fun t28 => ((sets_Find.f k x12002 x15).bind fun t29 => ((sets_Find.f k x3 t29).bind fun t30 => (if t28 = t30 then (roadbooklaw16_MemoMust.l0 k x1 x2 x3 (wrap64 (x15 + 1)) x12000 x12001 x12002 x26000 x26001 x26002 x28000 x28001 x28002) else (some true))))) else ((memo_May.f x28000 x28001 x28002).bind fun t31 => (if t31 = true then ((sets_Find.f k x3 x1).bind fun t32 => ((sets_Find.f k x3 x2).bind fun t33 => (roadbooklaw16_MemoMust.j2 k x3 (t32 != t33) x12000 x12001 x12002 x26000 x26001 x26002))) else (roadbooklaw16_MemoMust.j2 k x3 true x12000 x12001 x12002 x26000 x26001 x26002)))
def roadbooklaw16_MemoMust.j2 : Nat → List Int → Bool → List (S48) → List Int → List Int → List (S48) → List Int → List Int → Option (Bool)
  | 0, _, _, _, _, _, _, _, _ => none
  | k + 1, x3, x83, x12000, x12001, x12002, x26000, x26001, x26002 => if x83 = true then (some true) else (roadbooklaw16_MemoMust.l1 k x3 0 x12000 x12001 x12002 x26000 x26001 x26002)
def roadbooklaw16_MemoMust.l1 : Nat → List Int → Int → List (S48) → List Int → List Int → List (S48) → List Int → List Int → Option (Bool)
  | 0, _, _, _, _, _, _, _, _ => none
  | k + 1, x3, x16, x12000, x12001, x12002, x26000, x26001, x26002 => if x16 < (x12002.length : Int) then ((sets_Find.f k x3 x16).bind fun t34 => ((memo_Find.f k x26000 x26001 x26002 x16).bind fun t35 => ((sets_Find.f k x3 t35).bind fun t36 => (if t34 = t36 then (roadbooklaw16_MemoMust.l1 k x3 (wrap64 (x16 + 1)) x12000 x12001 x12002 x26000 x26001 x26002) else (some false))))) else (some true)
end
def roadbooklaw16_MemoMust.f (k : Nat) (l0_0 : List (S48)) (l0_1 : List Int) (l0_2 : List Int) (a1 : Int) (a2 : Int) (l3 : List Int) : Option (Bool) := (roadbooklaw16_awake.f k).bind fun t12 => ((roadbooklaw16_few.f l0_0 l0_1 l0_2 60).bind fun t13 => ((memo_Merge.f k l0_0 l0_1 l0_2 a1 a2).bind fun bt14 => (if t12 = true then (if t13 = true then (if bt14.2.2.2.2 = 0 then (if (l3.length : Int) = (l0_2.length : Int) then ((sets_May.f k l3).bind fun t26 => (roadbooklaw16_MemoMust.j0 k a1 a2 l3 t12 (!t26) l0_0 l0_1 l0_2 bt14.1 bt14.2.1 bt14.2.2.1)) else (roadbooklaw16_MemoMust.j0 k a1 a2 l3 t12 true l0_0 l0_1 l0_2 bt14.1 bt14.2.1 bt14.2.2.1)) else (roadbooklaw16_MemoMust.j0 k a1 a2 l3 t12 true l0_0 l0_1 l0_2 bt14.1 bt14.2.1 bt14.2.2.1)) else (roadbooklaw16_MemoMust.j0 k a1 a2 l3 t12 true l0_0 l0_1 l0_2 bt14.1 bt14.2.1 bt14.2.2.1)) else (roadbooklaw16_MemoMust.j0 k a1 a2 l3 t12 true l0_0 l0_1 l0_2 bt14.1 bt14.2.1 bt14.2.2.1))))
theorem roadbooklaw16_MemoMust.mono_l : ∀ k, (∀ y0 y1 y2 y3 y4 y5 y6 y7 y8 y9 y10, LeO (roadbooklaw16_MemoMust.j0 k y0 y1 y2 y3 y4 y5 y6 y7 y8 y9 y10) (roadbooklaw16_MemoMust.j0 (k + 1) y0 y1 y2 y3 y4 y5 y6 y7 y8 y9 y10)) ∧ (∀ y0 y1 y2 y3 y4 y5 y6 y7 y8 y9 y10 y11 y12, LeO (roadbooklaw16_MemoMust.l0 k y0 y1 y2 y3 y4 y5 y6 y7 y8 y9 y10 y11 y12) (roadbooklaw16_MemoMust.l0 (k + 1) y0 y1 y2 y3 y4 y5 y6 y7 y8 y9 y10 y11 y12)) ∧ (∀ y0 y1 y2 y3 y4 y5 y6 y7, LeO (roadbooklaw16_MemoMust.j2 k y0 y1 y2 y3 y4 y5 y6 y7) (roadbooklaw16_MemoMust.j2 (k + 1) y0 y1 y2 y3 y4 y5 y6 y7)) ∧ (∀ y0 y1 y2 y3 y4 y5 y6 y7, LeO (roadbooklaw16_MemoMust.l1 k y0 y1 y2 y3 y4 y5 y6 y7) (roadbooklaw16_MemoMust.l1 (k + 1) y0 y1 y2 y3 y4 y5 y6 y7))
  | 0 => ⟨fun _ _ _ _ _ _ _ _ _ _ _ r h => by simp [roadbooklaw16_MemoMust.j0] at h, fun _ _ _ _ _ _ _ _ _ _ _ _ _ r h => by simp [roadbooklaw16_MemoMust.l0] at h, fun _ _ _ _ _ _ _ _ r h => by simp [roadbooklaw16_MemoMust.j2] at h, fun _ _ _ _ _ _ _ _ r h => by simp [roadbooklaw16_MemoMust.l1] at h⟩
  | k + 1 => by
    obtain ⟨ih0, ih1, ih2, ih3⟩ := roadbooklaw16_MemoMust.mono_l k
    refine ⟨?_, ?_, ?_, ?_⟩
    · intro y0 y1 y2 y3 y4 y5 y6 y7 y8 y9 y10
      unfold roadbooklaw16_MemoMust.j0
      repeat' first
      | (with_reducible exact ih0 _ _ _ _ _ _ _ _ _ _ _)
      | (with_reducible exact ih1 _ _ _ _ _ _ _ _ _ _ _ _ _)
      | (with_reducible exact ih2 _ _ _ _ _ _ _ _)
      | (with_reducible exact ih3 _ _ _ _ _ _ _ _)
      | (with_reducible exact memo_Find.mono _ _ _ _ _)
      | (with_reducible exact memo_Merge.mono _ _ _ _ _ _)
      | (with_reducible exact roadbooklaw16_awake.mono _)
      | (with_reducible exact sets_Find.mono _ _ _)
      | (with_reducible exact sets_May.mono _ _)
      | (with_reducible exact LeO.refl _)
      | (with_reducible exact LeO.none _)
      | (with_reducible refine LeO.ite ?_ ?_)
      | (with_reducible refine LeO.bind ?_ (fun _ => ?_))
      | exact ih0 _ _ _ _ _ _ _ _ _ _ _
      | exact ih1 _ _ _ _ _ _ _ _ _ _ _ _ _
      | exact ih2 _ _ _ _ _ _ _ _
      | exact ih3 _ _ _ _ _ _ _ _
      | exact memo_Find.mono _ _ _ _ _
      | exact memo_Merge.mono _ _ _ _ _ _
      | exact roadbooklaw16_awake.mono _
      | exact sets_Find.mono _ _ _
      | exact sets_May.mono _ _
      | exact LeO.none _
      | refine LeO.ite ?_ ?_
      | refine LeO.bind ?_ (fun _ => ?_)
    · intro y0 y1 y2 y3 y4 y5 y6 y7 y8 y9 y10 y11 y12
      unfold roadbooklaw16_MemoMust.l0
      repeat' first
      | (with_reducible exact ih0 _ _ _ _ _ _ _ _ _ _ _)
      | (with_reducible exact ih1 _ _ _ _ _ _ _ _ _ _ _ _ _)
      | (with_reducible exact ih2 _ _ _ _ _ _ _ _)
      | (with_reducible exact ih3 _ _ _ _ _ _ _ _)
      | (with_reducible exact memo_Find.mono _ _ _ _ _)
      | (with_reducible exact memo_Merge.mono _ _ _ _ _ _)
      | (with_reducible exact roadbooklaw16_awake.mono _)
      | (with_reducible exact sets_Find.mono _ _ _)
      | (with_reducible exact sets_May.mono _ _)
      | (with_reducible exact LeO.refl _)
      | (with_reducible exact LeO.none _)
      | (with_reducible refine LeO.ite ?_ ?_)
      | (with_reducible refine LeO.bind ?_ (fun _ => ?_))
      | exact ih0 _ _ _ _ _ _ _ _ _ _ _
      | exact ih1 _ _ _ _ _ _ _ _ _ _ _ _ _
      | exact ih2 _ _ _ _ _ _ _ _
      | exact ih3 _ _ _ _ _ _ _ _
      | exact memo_Find.mono _ _ _ _ _
      | exact memo_Merge.mono _ _ _ _ _ _
      | exact roadbooklaw16_awake.mono _
      | exact sets_Find.mono _ _ _
      | exact sets_May.mono _ _
      | exact LeO.none _
      | refine LeO.ite ?_ ?_
      | refine LeO.bind ?_ (fun _ => ?_)
    · intro y0 y1 y2 y3 y4 y5 y6 y7
      unfold roadbooklaw16_MemoMust.j2
      repeat' first
      | (with_reducible exact ih0 _ _ _ _ _ _ _ _ _ _ _)
      | (with_reducible exact ih1 _ _ _ _ _ _ _ _ _ _ _ _ _)
      | (with_reducible exact ih2 _ _ _ _ _ _ _ _)
      | (with_reducible exact ih3 _ _ _ _ _ _ _ _)
      | (with_reducible exact memo_Find.mono _ _ _ _ _)
      | (with_reducible exact memo_Merge.mono _ _ _ _ _ _)
      | (with_reducible exact roadbooklaw16_awake.mono _)
      | (with_reducible exact sets_Find.mono _ _ _)
      | (with_reducible exact sets_May.mono _ _)
      | (with_reducible exact LeO.refl _)
      | (with_reducible exact LeO.none _)
      | (with_reducible refine LeO.ite ?_ ?_)
      | (with_reducible refine LeO.bind ?_ (fun _ => ?_))
      | exact ih0 _ _ _ _ _ _ _ _ _ _ _
      | exact ih1 _ _ _ _ _ _ _ _ _ _ _ _ _
      | exact ih2 _ _ _ _ _ _ _ _
      | exact ih3 _ _ _ _ _ _ _ _
      | exact memo_Find.mono _ _ _ _ _
      | exact memo_Merge.mono _ _ _ _ _ _
      | exact roadbooklaw16_awake.mono _
      | exact sets_Find.mono _ _ _
      | exact sets_May.mono _ _
      | exact LeO.none _
      | refine LeO.ite ?_ ?_
      | refine LeO.bind ?_ (fun _ => ?_)
    · intro y0 y1 y2 y3 y4 y5 y6 y7
      unfold roadbooklaw16_MemoMust.l1
      repeat' first
      | (with_reducible exact ih0 _ _ _ _ _ _ _ _ _ _ _)
      | (with_reducible exact ih1 _ _ _ _ _ _ _ _ _ _ _ _ _)
      | (with_reducible exact ih2 _ _ _ _ _ _ _ _)
      | (with_reducible exact ih3 _ _ _ _ _ _ _ _)
      | (with_reducible exact memo_Find.mono _ _ _ _ _)
      | (with_reducible exact memo_Merge.mono _ _ _ _ _ _)
      | (with_reducible exact roadbooklaw16_awake.mono _)
      | (with_reducible exact sets_Find.mono _ _ _)
      | (with_reducible exact sets_May.mono _ _)
      | (with_reducible exact LeO.refl _)
      | (with_reducible exact LeO.none _)
      | (with_reducible refine LeO.ite ?_ ?_)
      | (with_reducible refine LeO.bind ?_ (fun _ => ?_))
      | exact ih0 _ _ _ _ _ _ _ _ _ _ _
      | exact ih1 _ _ _ _ _ _ _ _ _ _ _ _ _
      | exact ih2 _ _ _ _ _ _ _ _
      | exact ih3 _ _ _ _ _ _ _ _
      | exact memo_Find.mono _ _ _ _ _
      | exact memo_Merge.mono _ _ _ _ _ _
      | exact roadbooklaw16_awake.mono _
      | exact sets_Find.mono _ _ _
      | exact sets_May.mono _ _
      | exact LeO.none _
      | refine LeO.ite ?_ ?_
      | refine LeO.bind ?_ (fun _ => ?_)
theorem roadbooklaw16_MemoMust.mono : ∀ a0 a1 a2 a3 a4 a5 k, LeO (roadbooklaw16_MemoMust.f k a0 a1 a2 a3 a4 a5) (roadbooklaw16_MemoMust.f (k + 1) a0 a1 a2 a3 a4 a5) := by
  intro a0 a1 a2 a3 a4 a5 k
  obtain ⟨ih0, ih1, ih2, ih3⟩ := roadbooklaw16_MemoMust.mono_l k
  unfold roadbooklaw16_MemoMust.f
  repeat' first
      | (with_reducible exact ih0 _ _ _ _ _ _ _ _ _ _ _)
      | (with_reducible exact ih1 _ _ _ _ _ _ _ _ _ _ _ _ _)
      | (with_reducible exact ih2 _ _ _ _ _ _ _ _)
      | (with_reducible exact ih3 _ _ _ _ _ _ _ _)
      | (with_reducible exact memo_Find.mono _ _ _ _ _)
      | (with_reducible exact memo_Merge.mono _ _ _ _ _ _)
      | (with_reducible exact roadbooklaw16_awake.mono _)
      | (with_reducible exact sets_Find.mono _ _ _)
      | (with_reducible exact sets_May.mono _ _)
      | (with_reducible exact LeO.refl _)
      | (with_reducible exact LeO.none _)
      | (with_reducible refine LeO.ite ?_ ?_)
      | (with_reducible refine LeO.bind ?_ (fun _ => ?_))
      | exact ih0 _ _ _ _ _ _ _ _ _ _ _
      | exact ih1 _ _ _ _ _ _ _ _ _ _ _ _ _
      | exact ih2 _ _ _ _ _ _ _ _
      | exact ih3 _ _ _ _ _ _ _ _
      | exact memo_Find.mono _ _ _ _ _
      | exact memo_Merge.mono _ _ _ _ _ _
      | exact roadbooklaw16_awake.mono _
      | exact sets_Find.mono _ _ _
      | exact sets_May.mono _ _
      | exact LeO.none _
      | refine LeO.ite ?_ ?_
      | refine LeO.bind ?_ (fun _ => ?_)
def roadbooklaw16_MemoMust.T11 : Bool × List (List Nat × List Nat) := (true, [([], []), ([], []), ([0, 1], [0, 1]), ([], []), ([], []), ([4], [4]), ([], []), ([5, 6, 2], [5, 6]), ([3, 7, 7], [3, 7]), ([2, 8], [2, 8])])
def roadbooklaw16_MemoMust.B11 : List Nat := [0, 0, 3, 0, 0, 16, 0, 119, 255, 511]
theorem roadbooklaw16_MemoMust.tab11 : rtab .any (opsOf Try.f9 11) = roadbooklaw16_MemoMust.T11 := by kernel_rfl
theorem roadbooklaw16_MemoMust.bits11 : waitsOk roadbooklaw16_MemoMust.T11.2 roadbooklaw16_MemoMust.B11 = true := by kernel_rfl
def roadbooklaw16_MemoMust.T18 : Bool × List (List Nat × List Nat) := (true, [([], []), ([], []), ([0, 1], [0, 1]), ([], []), ([], []), ([], []), ([4, 5, 2], [4, 5]), ([3, 6, 6], [3, 6]), ([2, 7], [2, 7])])
def roadbooklaw16_MemoMust.B18 : List Nat := [0, 0, 3, 0, 0, 0, 55, 127, 255]
theorem roadbooklaw16_MemoMust.tab18 : rtab .any (opsOf Try.f9 18) = roadbooklaw16_MemoMust.T18 := by kernel_rfl
theorem roadbooklaw16_MemoMust.bits18 : waitsOk roadbooklaw16_MemoMust.T18.2 roadbooklaw16_MemoMust.B18 = true := by kernel_rfl
set_option maxHeartbeats 8000000 in
set_option maxRecDepth 100000 in
theorem roadbooklaw16_MemoMust.calls (k : Nat) (A0_0 : Option Addr) (c0_0 : Nat) (l0_0 : List (S48)) (A0_1 : Option Addr) (c0_1 : Nat) (l0_1 : List Int) (A0_2 : Option Addr) (c0_2 : Nat) (l0_2 : List Int) (a1 : Int) (a2 : Int) (A3 : Option Addr) (c3 : Nat) (l3 : List Int) (r : Bool) (w : World) (hr0_0 : Kd.C k48 w A0_0 l0_0.length l0_0) (hc0_0 : l0_0.length ≤ c0_0) (hr0_1 : Kd.C (Kd.int .i64) w A0_1 l0_1.length l0_1) (hc0_1 : l0_1.length ≤ c0_1) (hr0_2 : Kd.C (Kd.int .i64) w A0_2 l0_2.length l0_2) (hc0_2 : l0_2.length ≤ c0_2) (hr3 : Kd.C (Kd.int .i64) w A3 l3.length l3) (hc3 : l3.length ≤ c3) (hrt : r = true) (h : roadbooklaw16_MemoMust.f k l0_0 l0_1 l0_2 a1 a2 l3 = some r) :
    Calls Try.prog 9 #[.agg #[.slice A0_0 l0_0.length c0_0, .slice A0_1 l0_1.length c0_1, .slice A0_2 l0_2.length c0_2], .int .i64 a1, .int .i64 a2, .slice A3 l3.length c3] w fun e w' => e = .returned (.bool r) ∧ Below w.heap.size w w' := by
  have HRT := Aside0.mk hrt
  clear hrt
  have hu38 := Try.underlying38
  have HR0_0 := Aside0.mk hr0_0
  have HC0_0 := Aside0.mk hc0_0
  clear hr0_0 hc0_0
  have HR0_1 := Aside0.mk hr0_1
  have HC0_1 := Aside0.mk hc0_1
  clear hr0_1 hc0_1
  have HR0_2 := Aside0.mk hr0_2
  have HC0_2 := Aside0.mk hc0_2
  clear hr0_2 hc0_2
  have HR3 := Aside0.mk hr3
  have HC3 := Aside0.mk hc3
  clear hr3 hc3
  have HB := Aside0.mk (Below.refl w.heap.size w)
  have H : ((roadbooklaw16_awake.f k).bind fun t12 => ((roadbooklaw16_few.f l0_0 l0_1 l0_2 60).bind fun t13 => ((memo_Merge.f k l0_0 l0_1 l0_2 a1 a2).bind fun bt14 => (if t12 = true then (if t13 = true then (if bt14.2.2.2.2 = 0 then (if (l3.length : Int) = (l0_2.length : Int) then ((sets_May.f k l3).bind fun t26 => (roadbooklaw16_MemoMust.j0 k a1 a2 l3 t12 (!t26) l0_0 l0_1 l0_2 bt14.1 bt14.2.1 bt14.2.2.1)) else (roadbooklaw16_MemoMust.j0 k a1 a2 l3 t12 true l0_0 l0_1 l0_2 bt14.1 bt14.2.1 bt14.2.2.1)) else (roadbooklaw16_MemoMust.j0 k a1 a2 l3 t12 true l0_0 l0_1 l0_2 bt14.1 bt14.2.1 bt14.2.2.1)) else (roadbooklaw16_MemoMust.j0 k a1 a2 l3 t12 true l0_0 l0_1 l0_2 bt14.1 bt14.2.1 bt14.2.2.1)) else (roadbooklaw16_MemoMust.j0 k a1 a2 l3 t12 true l0_0 l0_1 l0_2 bt14.1 bt14.2.1 bt14.2.2.1))))) = some r := h
  clear h
  replace H := Option.bind_eq_some_iff.mp H
  obtain ⟨t12, A50, H⟩ := H
  replace H : ((roadbooklaw16_few.f l0_0 l0_1 l0_2 60).bind fun t13 => ((memo_Merge.f k l0_0 l0_1 l0_2 a1 a2).bind fun bt14 => (if t12 = true then (if t13 = true then (if bt14.2.2.2.2 = 0 then (if (l3.length : Int) = (l0_2.length : Int) then ((sets_May.f k l3).bind fun t26 => (roadbooklaw16_MemoMust.j0 k a1 a2 l3 t12 (!t26) l0_0 l0_1 l0_2 bt14.1 bt14.2.1 bt14.2.2.1)) else (roadbooklaw16_MemoMust.j0 k a1 a2 l3 t12 true l0_0 l0_1 l0_2 bt14.1 bt14.2.1 bt14.2.2.1)) else (roadbooklaw16_MemoMust.j0 k a1 a2 l3 t12 true l0_0 l0_1 l0_2 bt14.1 bt14.2.1 bt14.2.2.1)) else (roadbooklaw16_MemoMust.j0 k a1 a2 l3 t12 true l0_0 l0_1 l0_2 bt14.1 bt14.2.1 bt14.2.2.1)) else (roadbooklaw16_MemoMust.j0 k a1 a2 l3 t12 true l0_0 l0_1 l0_2 bt14.1 bt14.2.1 bt14.2.2.1)))) = some r := H
  have A5 := Aside0.mk A50
  clear A50
  replace H := Option.bind_eq_some_iff.mp H
  obtain ⟨t13, A60, H⟩ := H
  replace H : ((memo_Merge.f k l0_0 l0_1 l0_2 a1 a2).bind fun bt14 => (if t12 = true then (if t13 = true then (if bt14.2.2.2.2 = 0 then (if (l3.length : Int) = (l0_2.length : Int) then ((sets_May.f k l3).bind fun t26 => (roadbooklaw16_MemoMust.j0 k a1 a2 l3 t12 (!t26) l0_0 l0_1 l0_2 bt14.1 bt14.2.1 bt14.2.2.1)) else (roadbooklaw16_MemoMust.j0 k a1 a2 l3 t12 true l0_0 l0_1 l0_2 bt14.1 bt14.2.1 bt14.2.2.1)) else (roadbooklaw16_MemoMust.j0 k a1 a2 l3 t12 true l0_0 l0_1 l0_2 bt14.1 bt14.2.1 bt14.2.2.1)) else (roadbooklaw16_MemoMust.j0 k a1 a2 l3 t12 true l0_0 l0_1 l0_2 bt14.1 bt14.2.1 bt14.2.2.1)) else (roadbooklaw16_MemoMust.j0 k a1 a2 l3 t12 true l0_0 l0_1 l0_2 bt14.1 bt14.2.1 bt14.2.2.1))) = some r := H
  have A6 := Aside0.mk A60
  clear A60
  replace H := Option.bind_eq_some_iff.mp H
  obtain ⟨⟨t14, t17, t20, t23, t24⟩, A70, H⟩ := H
  replace H : (if t12 = true then (if t13 = true then (if t24 = 0 then (if (l3.length : Int) = (l0_2.length : Int) then ((sets_May.f k l3).bind fun t26 => (roadbooklaw16_MemoMust.j0 k a1 a2 l3 t12 (!t26) l0_0 l0_1 l0_2 t14 t17 t20)) else (roadbooklaw16_MemoMust.j0 k a1 a2 l3 t12 true l0_0 l0_1 l0_2 t14 t17 t20)) else (roadbooklaw16_MemoMust.j0 k a1 a2 l3 t12 true l0_0 l0_1 l0_2 t14 t17 t20)) else (roadbooklaw16_MemoMust.j0 k a1 a2 l3 t12 true l0_0 l0_1 l0_2 t14 t17 t20)) else (roadbooklaw16_MemoMust.j0 k a1 a2 l3 t12 true l0_0 l0_1 l0_2 t14 t17 t20)) = some r := H
  have A7 := Aside0.mk A70
  clear A70
  have HC8 := Aside0.mk H
  clear H
  go_enter Try.func9, Try.ntmps9
  go_upto_region 4 with (first | ((with_reducible refine gate_dst (N := 4) rfl ?_); (try (refine gate_guard (by rfl) ?_; dsimp only)); refine box_event ?hg (N := 4) ?hd (cs := #[.slice A0_0 l0_0.length c0_0, .slice A0_1 l0_1.length c0_1, .slice A0_2 l0_2.length c0_2]) (t := 38) ?hr ?_; (case hd => rfl); (case hg => rfl); (case hr => first | (go_simp; done) | (go_simp; rfl)); intro gb11 hg w9 hbox hb; have n0_ := Aside0.mk (below_step (by repeat (first | (with_reducible first | exact HB.out | apply below_alloc | apply pw_below_drewN | apply below_drew1) | exact HB.out)) hb); have n1_ := Aside0.mk (hbox); have n2_ := Aside0.mk ((by rw [hg]; exact (below_size (by repeat (first | (with_reducible first | exact HB.out | apply below_alloc | apply pw_below_drewN | apply below_drew1) | exact HB.out))) : w.heap.size ≤ gb11)); have n3_ := Aside0.mk ((by rw [hg]; exact (below_size (by repeat (first | (with_reducible first | exact HB.out | apply below_alloc | apply pw_below_drewN | apply below_drew1) | exact HB.out))) : w.heap.size ≤ gb11)); clear HB; have HB := n0_; have BK11 := n1_; have GW11 := n2_; have GE11 := n3_; clear n0_ n1_ n2_ n3_; clear hb hbox hg) | ((with_reducible refine gate_callee (f := 38) rfl ?_); refine goesL_ (some 17) rfl rfl Try.func38 (by kernel_rfl) rfl #[] rfl (by (try simp only [List.map_toArray, List.map_cons, List.map_nil]); first | done | rfl | (simp only [List.length_drop, List.length_take]; rfl)) ?_; (with_reducible refine (roadbooklaw16_awake.calls k  t12 _ A5.out).mono ?_); rintro e w10 ⟨rfl, hb⟩; refine ⟨_, rfl, ?_⟩; have n0_ := Aside0.mk (blk_below (g := gb11) (o := .cells #[.slice A0_0 l0_0.length c0_0, .slice A0_1 l0_1.length c0_1, .slice A0_2 l0_2.length c0_2] 38 (0, 0)) (by (with_reducible repeat (first | refine blk_drewN ?_ _ | refine blk_drew ?_ | refine blk_alloc ?_ _)); exact BK11.out) hb); have n1_ := Aside0.mk (below_step (by repeat (first | (with_reducible first | exact HB.out | apply below_alloc | apply pw_below_drewN | apply below_drew1 | refine below_set ?_ GE11.out) | exact HB.out)) hb); clear BK11; clear HB; have BK11 := n0_; have HB := n1_; clear n0_ n1_; (try clear hb); (try clear hb2); (try clear hk); (try clear hi); have hcz11_0 : w10.cell? ⟨gb11, 0, none⟩ = some (.slice A0_0 l0_0.length c0_0) := (blk_cell BK11.out 0).trans rfl; have hcz11_1 : w10.cell? ⟨gb11, 1, none⟩ = some (.slice A0_1 l0_1.length c0_1) := (blk_cell BK11.out 1).trans rfl; have hcz11_2 : w10.cell? ⟨gb11, 2, none⟩ = some (.slice A0_2 l0_2.length c0_2) := (blk_cell BK11.out 2).trans rfl; have hfz11_0 := blk_frozen BK11.out 0; have hfz11_1 := blk_frozen BK11.out 1; have hfz11_2 := blk_frozen BK11.out 2) | ((with_reducible refine gate_callee (f := 39) rfl ?_); refine goesL_ (some 19) rfl rfl Try.func39 (by kernel_rfl) rfl #[.agg #[.slice A0_0 l0_0.length c0_0, .slice A0_1 l0_1.length c0_1, .slice A0_2 l0_2.length c0_2], .int .i64 60] rfl (by (try simp only [List.map_toArray, List.map_cons, List.map_nil]); first | done | rfl | (simp only [List.length_drop, List.length_take]; rfl)) ?_; (with_reducible refine (roadbooklaw16_few.calls _ _ l0_0 _ _ l0_1 _ _ l0_2 60 t13 _ ?side1 ?side2 ?side3 ?side4 ?side5 ?side6 A6.out).mono ?_); (case side1 => repeat (first | exact (Kd.C_below HR0_0.out HB.out) | (with_reducible refine Kd.C_alloc ?_ _) | (with_reducible refine Kd.C_drewN ?_ _) | (with_reducible refine Kd.C_drew ?_))); (case side2 => exact HC0_0.out); (case side3 => repeat (first | exact (Kd.C_below HR0_1.out HB.out) | (with_reducible refine Kd.C_alloc ?_ _) | (with_reducible refine Kd.C_drewN ?_ _) | (with_reducible refine Kd.C_drew ?_))); (case side4 => exact HC0_1.out); (case side5 => repeat (first | exact (Kd.C_below HR0_2.out HB.out) | (with_reducible refine Kd.C_alloc ?_ _) | (with_reducible refine Kd.C_drewN ?_ _) | (with_reducible refine Kd.C_drew ?_))); (case side6 => exact HC0_2.out); rintro e w12 ⟨rfl, hb⟩; refine ⟨_, rfl, ?_⟩; have n0_ := Aside0.mk (blk_below (g := gb11) (o := .cells #[.slice A0_0 l0_0.length c0_0, .slice A0_1 l0_1.length c0_1, .slice A0_2 l0_2.length c0_2] 38 (0, 0)) (by (with_reducible repeat (first | refine blk_drewN ?_ _ | refine blk_drew ?_ | refine blk_alloc ?_ _)); exact BK11.out) hb); have n1_ := Aside0.mk (below_step (by repeat (first | (with_reducible first | exact HB.out | apply below_alloc | apply pw_below_drewN | apply below_drew1 | refine below_set ?_ GE11.out) | exact HB.out)) hb); clear BK11; clear HB; have BK11 := n0_; have HB := n1_; clear n0_ n1_; (try clear hb); (try clear hb2); (try clear hk); (try clear hi); have hcz13_0 : w12.cell? ⟨gb11, 0, none⟩ = some (.slice A0_0 l0_0.length c0_0) := (blk_cell BK11.out 0).trans rfl; have hcz13_1 : w12.cell? ⟨gb11, 1, none⟩ = some (.slice A0_1 l0_1.length c0_1) := (blk_cell BK11.out 1).trans rfl; have hcz13_2 : w12.cell? ⟨gb11, 2, none⟩ = some (.slice A0_2 l0_2.length c0_2) := (blk_cell BK11.out 2).trans rfl; have hfz13_0 := blk_frozen BK11.out 0; have hfz13_1 := blk_frozen BK11.out 1; have hfz13_2 := blk_frozen BK11.out 2) | ((with_reducible refine gate_callee (f := 40) rfl ?_); refine goesL_ (some 24) rfl rfl Try.func40 (by kernel_rfl) rfl #[.agg #[.slice A0_0 l0_0.length c0_0, .slice A0_1 l0_1.length c0_1, .slice A0_2 l0_2.length c0_2], .int .i64 a1, .int .i64 a2] rfl (by (try simp only [List.map_toArray, List.map_cons, List.map_nil]); first | done | rfl | (simp only [List.length_drop, List.length_take]; rfl)) ?_; (with_reducible refine (memo_Merge.calls k _ _ l0_0 _ _ l0_1 _ _ l0_2 a1 a2 t14 t17 t20 t23 t24 _ ?side1 ?side2 ?side3 ?side4 ?side5 ?side6 A7.out).mono ?_); (case side1 => repeat (first | exact (Kd.C_below HR0_0.out HB.out) | (with_reducible refine Kd.C_alloc ?_ _) | (with_reducible refine Kd.C_drewN ?_ _) | (with_reducible refine Kd.C_drew ?_))); (case side2 => exact HC0_0.out); (case side3 => repeat (first | exact (Kd.C_below HR0_1.out HB.out) | (with_reducible refine Kd.C_alloc ?_ _) | (with_reducible refine Kd.C_drewN ?_ _) | (with_reducible refine Kd.C_drew ?_))); (case side4 => exact HC0_1.out); (case side5 => repeat (first | exact (Kd.C_below HR0_2.out HB.out) | (with_reducible refine Kd.C_alloc ?_ _) | (with_reducible refine Kd.C_drewN ?_ _) | (with_reducible refine Kd.C_drew ?_))); (case side6 => exact HC0_2.out); rintro e w14 ⟨v15, v18, v21, rfl, ho0, ho1, ho2, hb⟩; refine ⟨_, rfl, ?_⟩; have n0_ := Aside0.mk (Kd.R_lower ho0 (below_size (by repeat (first | (with_reducible first | exact HB.out | apply below_alloc | apply pw_below_drewN | apply below_drew1 | refine below_set ?_ GE11.out) | exact HB.out)))); have n1_ := Aside0.mk (Kd.R_lower ho1 (below_size (by repeat (first | (with_reducible first | exact HB.out | apply below_alloc | apply pw_below_drewN | apply below_drew1 | refine below_set ?_ GE11.out) | exact HB.out)))); have n2_ := Aside0.mk (Kd.R_lower ho2 (below_size (by repeat (first | (with_reducible first | exact HB.out | apply below_alloc | apply pw_below_drewN | apply below_drew1 | refine below_set ?_ GE11.out) | exact HB.out)))); have n3_ := Aside0.mk (blk_below (g := gb11) (o := .cells #[.slice A0_0 l0_0.length c0_0, .slice A0_1 l0_1.length c0_1, .slice A0_2 l0_2.length c0_2] 38 (0, 0)) (by (with_reducible repeat (first | refine blk_drewN ?_ _ | refine blk_drew ?_ | refine blk_alloc ?_ _)); exact BK11.out) hb); have n4_ := Aside0.mk (below_step (by repeat (first | (with_reducible first | exact HB.out | apply below_alloc | apply pw_below_drewN | apply below_drew1 | refine below_set ?_ GE11.out) | exact HB.out)) hb); clear BK11; clear HB; have HO16 := n0_; have HO19 := n1_; have HO22 := n2_; have BK11 := n3_; have HB := n4_; clear n0_ n1_ n2_ n3_ n4_; (try clear hb); (try clear hb2); (try clear hk); (try clear hi); (try clear ho0); (try clear ho1); (try clear ho2)) | ((with_reducible refine gate_dst (N := 11) rfl ?_); (try (refine gate_guard (by rfl) ?_; dsimp only)); refine box_event ?hg (N := 11) ?hd (cs := #[.slice none 0 0, .slice none 0 0, .slice none 0 0]) (t := 38) ?hr ?_; (case hd => rfl); (case hg => rfl); (case hr => first | (go_simp; done) | (go_simp; rfl)); intro gb25 hg w15 hbox hb; have n0_ := Aside0.mk (Kd.R_below (by (with_reducible repeat (first | apply Kd.R_alloc | apply Kd.R_drewN | apply Kd.R_drew)); exact HO16.out) hb); have n1_ := Aside0.mk (Kd.R_below (by (with_reducible repeat (first | apply Kd.R_alloc | apply Kd.R_drewN | apply Kd.R_drew)); exact HO19.out) hb); have n2_ := Aside0.mk (Kd.R_below (by (with_reducible repeat (first | apply Kd.R_alloc | apply Kd.R_drewN | apply Kd.R_drew)); exact HO22.out) hb); have n3_ := Aside0.mk (blk_below (g := gb11) (o := .cells #[.slice A0_0 l0_0.length c0_0, .slice A0_1 l0_1.length c0_1, .slice A0_2 l0_2.length c0_2] 38 (0, 0)) (by (with_reducible repeat (first | refine blk_drewN ?_ _ | refine blk_drew ?_ | refine blk_alloc ?_ _)); exact BK11.out) hb); have n4_ := Aside0.mk (below_step (by repeat (first | (with_reducible first | exact HB.out | apply below_alloc | apply pw_below_drewN | apply below_drew1 | refine below_set ?_ GE11.out) | exact HB.out)) hb); have n5_ := Aside0.mk (hbox); have n6_ := Aside0.mk ((by rw [hg]; exact (below_size (by repeat (first | (with_reducible first | exact HB.out | apply below_alloc | apply pw_below_drewN | apply below_drew1 | refine below_set ?_ GE11.out) | exact HB.out))) : w.heap.size ≤ gb25)); have n7_ := Aside0.mk ((by rw [hg]; exact (below_size (by repeat (first | (with_reducible first | exact HB.out | apply below_alloc | apply pw_below_drewN | apply below_drew1 | refine below_set ?_ GE11.out) | exact HB.out))) : w.heap.size ≤ gb25)); have n8_ := Aside0.mk ((by rw [hg]; exact Nat.ne_of_lt (blk_lt (g := gb11) (o := .cells #[.slice A0_0 l0_0.length c0_0, .slice A0_1 l0_1.length c0_1, .slice A0_2 l0_2.length c0_2] 38 (0, 0)) (by (with_reducible repeat (first | refine blk_drewN ?_ _ | refine blk_drew ?_ | refine blk_alloc ?_ _)); exact BK11.out)) : gb11 ≠ gb25)); have n9_ := Aside0.mk ((by rw [hg]; exact Nat.ne_of_gt (blk_lt (g := gb11) (o := .cells #[.slice A0_0 l0_0.length c0_0, .slice A0_1 l0_1.length c0_1, .slice A0_2 l0_2.length c0_2] 38 (0, 0)) (by (with_reducible repeat (first | refine blk_drewN ?_ _ | refine blk_drew ?_ | refine blk_alloc ?_ _)); exact BK11.out)) : gb25 ≠ gb11)); clear HO16; clear HO19; clear HO22; clear BK11; clear HB; have HO16 := n0_; have HO19 := n1_; have HO22 := n2_; have BK11 := n3_; have HB := n4_; have BK25 := n5_; have GW25 := n6_; have GE25 := n7_; have NB11_25 := n8_; have NB25_11 := n9_; clear n0_ n1_ n2_ n3_ n4_ n5_ n6_ n7_ n8_ n9_; clear hb hbox hg; obtain ⟨Ao16, co16, eo16⟩ := Kd.R_slice HO16.out; subst eo16; have hnb17 := NB25_11.out; have hnc17 := NB11_25.out; have hcz18_0 : w15.cell? ⟨gb25, 0, none⟩ = some (.slice none 0 0) := (blk_cell BK25.out 0).trans rfl; have hcz18_1 : w15.cell? ⟨gb25, 1, none⟩ = some (.slice none 0 0) := (blk_cell BK25.out 1).trans rfl; have hcz18_2 : w15.cell? ⟨gb25, 2, none⟩ = some (.slice none 0 0) := (blk_cell BK25.out 2).trans rfl; have hfz18_0 := blk_frozen BK25.out 0; have hfz18_1 := blk_frozen BK25.out 1; have hfz18_2 := blk_frozen BK25.out 2; obtain ⟨Ao19, co19, eo19⟩ := Kd.R_slice HO19.out; subst eo19; obtain ⟨Ao20, co20, eo20⟩ := Kd.R_slice HO22.out; subst eo20))
  (try simp only [Act.put, List.setIfInBounds_toArray, List.set_cons_zero, List.set_cons_succ])
  go_cut [50] (fun v50 wc => ∃ (kq : Nat) (x50_7 : Bool), v50 = .bool x50_7 ∧ Aside0 (roadbooklaw16_MemoMust.j0 kq a1 a2 l3 t12 x50_7 l0_0 l0_1 l0_2 t14 t17 t20 = some r) ∧ Aside0 (kq ≤ k) ∧ Aside0 (Kd.R k48 48 wc w.heap.size (fun _ => True) (.slice Ao16 t14.length co16) t14) ∧ Aside0 (Kd.R (Kd.int .i64) 3 wc w.heap.size (fun k_ => some k_ ≠ ((.slice Ao20 t20.length co20) : Value).ownBlock) (.slice Ao19 t17.length co19) t17) ∧ Aside0 (Kd.R (Kd.int .i64) 3 wc w.heap.size (fun k_ => some k_ ≠ ((.slice Ao19 t17.length co19) : Value).ownBlock) (.slice Ao20 t20.length co20) t20) ∧ Aside0 (wc.heap[gb11]? = some (.cells #[(.slice A0_0 l0_0.length c0_0), (.slice A0_1 l0_1.length c0_1), (.slice A0_2 l0_2.length c0_2)] 38 (0, 0))) ∧ Aside0 (wc.heap[gb25]? = some (.cells #[(.slice Ao16 t14.length co16), (.slice Ao19 t17.length co19), (.slice Ao20 t20.length co20)] 38 (0, 0))) ∧ Aside0 (Below w.heap.size w wc))
  case first =>
    have H := HC8.out
    clear HC8
    by_cases c21 : t12 = true
    · subst c21
      have H1 : (if t13 = true then (if t24 = 0 then (if (l3.length : Int) = (l0_2.length : Int) then ((sets_May.f k l3).bind fun t26 => (roadbooklaw16_MemoMust.j0 k a1 a2 l3 true (!t26) l0_0 l0_1 l0_2 t14 t17 t20)) else (roadbooklaw16_MemoMust.j0 k a1 a2 l3 true true l0_0 l0_1 l0_2 t14 t17 t20)) else (roadbooklaw16_MemoMust.j0 k a1 a2 l3 true true l0_0 l0_1 l0_2 t14 t17 t20)) else (roadbooklaw16_MemoMust.j0 k a1 a2 l3 true true l0_0 l0_1 l0_2 t14 t17 t20)) = some r := by rw [if_pos rfl] at H; exact H
      clear H
      have H := H1
      clear H1
      by_cases c22 : t13 = true
      · subst c22
        have H1 : (if t24 = 0 then (if (l3.length : Int) = (l0_2.length : Int) then ((sets_May.f k l3).bind fun t26 => (roadbooklaw16_MemoMust.j0 k a1 a2 l3 true (!t26) l0_0 l0_1 l0_2 t14 t17 t20)) else (roadbooklaw16_MemoMust.j0 k a1 a2 l3 true true l0_0 l0_1 l0_2 t14 t17 t20)) else (roadbooklaw16_MemoMust.j0 k a1 a2 l3 true true l0_0 l0_1 l0_2 t14 t17 t20)) = some r := by rw [if_pos rfl] at H; exact H
        clear H
        have H := H1
        clear H1
        by_cases c23 : t24 = 0
        · rw [if_pos c23] at H
          have c23b0 : (t24 == 0) = true := beq_iff_eq.mpr c23
          have c23b1 : (t24 != 0) = false := bne_eq_false_iff_eq.mpr c23
          clear c23
          (first | rw [c23b0] | (simp only [i64_w, i32_w]; rw [c23b0]) | skip)
          by_cases c24 : (l3.length : Int) = (l0_2.length : Int)
          · rw [if_pos c24] at H
            have c24b0 : ((l3.length : Int) == (l0_2.length : Int)) = true := beq_iff_eq.mpr c24
            have c24b1 : ((l3.length : Int) != (l0_2.length : Int)) = false := bne_eq_false_iff_eq.mpr c24
            have c24b2 : (l3.length == l0_2.length) = true := by first | simpa using c24 | (simp at c24 ⊢; omega)
            clear c24
            replace H := Option.bind_eq_some_iff.mp H
            obtain ⟨t26, A250, H⟩ := H
            replace H : (roadbooklaw16_MemoMust.j0 k a1 a2 l3 true (!t26) l0_0 l0_1 l0_2 t14 t17 t20) = some r := H
            have A25 := Aside0.mk A250
            clear A250
            have H' := Aside0.mk H
            clear H
            have hnb26 := NB11_25.out
            have hnc26 := NB25_11.out
            have hcz27_0 : w15.cell? ⟨gb11, 0, none⟩ = some (.slice A0_0 l0_0.length c0_0) := (blk_cell BK11.out 0).trans rfl
            have hcz27_1 : w15.cell? ⟨gb11, 1, none⟩ = some (.slice A0_1 l0_1.length c0_1) := (blk_cell BK11.out 1).trans rfl
            have hcz27_2 : w15.cell? ⟨gb11, 2, none⟩ = some (.slice A0_2 l0_2.length c0_2) := (blk_cell BK11.out 2).trans rfl
            have hfz27_0 := blk_frozen BK11.out 0
            have hfz27_1 := blk_frozen BK11.out 1
            have hfz27_2 := blk_frozen BK11.out 2
            go_wp2_with (first | (go_at_call 25; (with_reducible refine (sets_May.calls k _ _ l3 t26 _ ?side1 ?side2 A25.out).mono ?_); (case side1 => exact Kd.C_below HR3.out (by repeat (first | (with_reducible first | exact HB.out | apply below_alloc | apply pw_below_drewN | apply below_drew1 | refine below_set ?_ GE11.out | refine below_set ?_ GE25.out) | exact HB.out))); (case side2 => exact HC3.out); rintro e w' ⟨rfl, ⟨nd, rfl⟩⟩))
            go_meet
            case rel => exact ⟨_, (!t26), (by first | rfl | (simp; done) | (simp [*]; done)), H', ⟨by first | omega | exact Nat.le_refl _⟩, ⟨by (with_reducible repeat (first | apply Kd.R_alloc | apply Kd.R_drewN | apply Kd.R_drew)); exact Kd.R_mono (Kd.R_far (p := ⟨gb25, 2, none⟩) (Kd.R_far (p := ⟨gb25, 1, none⟩) (Kd.R_far (p := ⟨gb25, 0, none⟩) (Kd.R_types HO16.out BK25.out (by decide)) (fun _ hk => hk.2) (.slice Ao16 t14.length co16)) (fun _ hk => hk.2) (.slice Ao19 t17.length co19)) (fun _ hk => hk.2) (.slice Ao20 t20.length co20)) (fun _ hk => trivial)⟩, ⟨by (with_reducible repeat (first | apply Kd.R_alloc | apply Kd.R_drewN | apply Kd.R_drew)); exact Kd.R_mono (Kd.R_far (p := ⟨gb25, 2, none⟩) (Kd.R_far (p := ⟨gb25, 1, none⟩) (Kd.R_far (p := ⟨gb25, 0, none⟩) (Kd.R_types HO19.out BK25.out (by decide)) (fun _ hk => hk.2) (.slice Ao16 t14.length co16)) (fun _ hk => hk.2) (.slice Ao19 t17.length co19)) (fun _ hk => hk.2) (.slice Ao20 t20.length co20)) (fun _ hk => hk.1)⟩, ⟨by (with_reducible repeat (first | apply Kd.R_alloc | apply Kd.R_drewN | apply Kd.R_drew)); exact Kd.R_mono (Kd.R_far (p := ⟨gb25, 2, none⟩) (Kd.R_far (p := ⟨gb25, 1, none⟩) (Kd.R_far (p := ⟨gb25, 0, none⟩) (Kd.R_types HO22.out BK25.out (by decide)) (fun _ hk => hk.2) (.slice Ao16 t14.length co16)) (fun _ hk => hk.2) (.slice Ao19 t17.length co19)) (fun _ hk => hk.2) (.slice Ao20 t20.length co20)) (fun _ hk => hk.1)⟩, ⟨by (with_reducible repeat (first | refine blk_drewN ?_ _ | refine blk_drew ?_ | refine blk_alloc ?_ _)); refine blk_far ?_ NB11_25.out _; (with_reducible repeat (first | refine blk_drewN ?_ _ | refine blk_drew ?_ | refine blk_alloc ?_ _)); refine blk_far ?_ NB11_25.out _; (with_reducible repeat (first | refine blk_drewN ?_ _ | refine blk_drew ?_ | refine blk_alloc ?_ _)); refine blk_far ?_ NB11_25.out _; (with_reducible repeat (first | refine blk_drewN ?_ _ | refine blk_drew ?_ | refine blk_alloc ?_ _)); exact BK11.out⟩, ⟨by (with_reducible repeat (first | refine blk_drewN ?_ _ | refine blk_drew ?_ | refine blk_alloc ?_ _)); refine blk_put (cs := #[.slice Ao16 t14.length co16, .slice Ao19 t17.length co19, .slice none 0 0]) ?_ 2 _ rfl; (with_reducible repeat (first | refine blk_drewN ?_ _ | refine blk_drew ?_ | refine blk_alloc ?_ _)); refine blk_put (cs := #[.slice Ao16 t14.length co16, .slice none 0 0, .slice none 0 0]) ?_ 1 _ rfl; (with_reducible repeat (first | refine blk_drewN ?_ _ | refine blk_drew ?_ | refine blk_alloc ?_ _)); refine blk_put (cs := #[.slice none 0 0, .slice none 0 0, .slice none 0 0]) ?_ 0 _ rfl; (with_reducible repeat (first | refine blk_drewN ?_ _ | refine blk_drew ?_ | refine blk_alloc ?_ _)); exact BK25.out⟩, ⟨by repeat (first | (with_reducible first | exact HB.out | apply below_alloc | apply pw_below_drewN | apply below_drew1 | refine below_set ?_ GE11.out | refine below_set ?_ GE25.out) | exact HB.out)⟩⟩
          · rw [if_neg c24] at H
            have c24b0 : ((l3.length : Int) == (l0_2.length : Int)) = false := beq_eq_false_iff_ne.mpr c24
            have c24b1 : ((l3.length : Int) != (l0_2.length : Int)) = true := bne_iff_ne.mpr c24
            have c24b2 : (l3.length == l0_2.length) = false := by first | simpa using c24 | (simp at c24 ⊢; omega)
            have H' := Aside0.mk H
            clear H
            have hnb28 := NB11_25.out
            have hnc28 := NB25_11.out
            have hcz29_0 : w15.cell? ⟨gb11, 0, none⟩ = some (.slice A0_0 l0_0.length c0_0) := (blk_cell BK11.out 0).trans rfl
            have hcz29_1 : w15.cell? ⟨gb11, 1, none⟩ = some (.slice A0_1 l0_1.length c0_1) := (blk_cell BK11.out 1).trans rfl
            have hcz29_2 : w15.cell? ⟨gb11, 2, none⟩ = some (.slice A0_2 l0_2.length c0_2) := (blk_cell BK11.out 2).trans rfl
            have hfz29_0 := blk_frozen BK11.out 0
            have hfz29_1 := blk_frozen BK11.out 1
            have hfz29_2 := blk_frozen BK11.out 2
            go_wp2
            go_meet
            case rel => exact ⟨_, (true), (by first | rfl | (simp; done) | (simp [*]; done)), H', ⟨by first | omega | exact Nat.le_refl _⟩, ⟨by (with_reducible repeat (first | apply Kd.R_alloc | apply Kd.R_drewN | apply Kd.R_drew)); exact Kd.R_mono (Kd.R_far (p := ⟨gb25, 2, none⟩) (Kd.R_far (p := ⟨gb25, 1, none⟩) (Kd.R_far (p := ⟨gb25, 0, none⟩) (Kd.R_types HO16.out BK25.out (by decide)) (fun _ hk => hk.2) (.slice Ao16 t14.length co16)) (fun _ hk => hk.2) (.slice Ao19 t17.length co19)) (fun _ hk => hk.2) (.slice Ao20 t20.length co20)) (fun _ hk => trivial)⟩, ⟨by (with_reducible repeat (first | apply Kd.R_alloc | apply Kd.R_drewN | apply Kd.R_drew)); exact Kd.R_mono (Kd.R_far (p := ⟨gb25, 2, none⟩) (Kd.R_far (p := ⟨gb25, 1, none⟩) (Kd.R_far (p := ⟨gb25, 0, none⟩) (Kd.R_types HO19.out BK25.out (by decide)) (fun _ hk => hk.2) (.slice Ao16 t14.length co16)) (fun _ hk => hk.2) (.slice Ao19 t17.length co19)) (fun _ hk => hk.2) (.slice Ao20 t20.length co20)) (fun _ hk => hk.1)⟩, ⟨by (with_reducible repeat (first | apply Kd.R_alloc | apply Kd.R_drewN | apply Kd.R_drew)); exact Kd.R_mono (Kd.R_far (p := ⟨gb25, 2, none⟩) (Kd.R_far (p := ⟨gb25, 1, none⟩) (Kd.R_far (p := ⟨gb25, 0, none⟩) (Kd.R_types HO22.out BK25.out (by decide)) (fun _ hk => hk.2) (.slice Ao16 t14.length co16)) (fun _ hk => hk.2) (.slice Ao19 t17.length co19)) (fun _ hk => hk.2) (.slice Ao20 t20.length co20)) (fun _ hk => hk.1)⟩, ⟨by (with_reducible repeat (first | refine blk_drewN ?_ _ | refine blk_drew ?_ | refine blk_alloc ?_ _)); refine blk_far ?_ NB11_25.out _; (with_reducible repeat (first | refine blk_drewN ?_ _ | refine blk_drew ?_ | refine blk_alloc ?_ _)); refine blk_far ?_ NB11_25.out _; (with_reducible repeat (first | refine blk_drewN ?_ _ | refine blk_drew ?_ | refine blk_alloc ?_ _)); refine blk_far ?_ NB11_25.out _; (with_reducible repeat (first | refine blk_drewN ?_ _ | refine blk_drew ?_ | refine blk_alloc ?_ _)); exact BK11.out⟩, ⟨by (with_reducible repeat (first | refine blk_drewN ?_ _ | refine blk_drew ?_ | refine blk_alloc ?_ _)); refine blk_put (cs := #[.slice Ao16 t14.length co16, .slice Ao19 t17.length co19, .slice none 0 0]) ?_ 2 _ rfl; (with_reducible repeat (first | refine blk_drewN ?_ _ | refine blk_drew ?_ | refine blk_alloc ?_ _)); refine blk_put (cs := #[.slice Ao16 t14.length co16, .slice none 0 0, .slice none 0 0]) ?_ 1 _ rfl; (with_reducible repeat (first | refine blk_drewN ?_ _ | refine blk_drew ?_ | refine blk_alloc ?_ _)); refine blk_put (cs := #[.slice none 0 0, .slice none 0 0, .slice none 0 0]) ?_ 0 _ rfl; (with_reducible repeat (first | refine blk_drewN ?_ _ | refine blk_drew ?_ | refine blk_alloc ?_ _)); exact BK25.out⟩, ⟨by repeat (first | (with_reducible first | exact HB.out | apply below_alloc | apply pw_below_drewN | apply below_drew1 | refine below_set ?_ GE11.out | refine below_set ?_ GE25.out) | exact HB.out)⟩⟩
        · rw [if_neg c23] at H
          have c23b0 : (t24 == 0) = false := beq_eq_false_iff_ne.mpr c23
          have c23b1 : (t24 != 0) = true := bne_iff_ne.mpr c23
          (first | rw [c23b0] | (simp only [i64_w, i32_w]; rw [c23b0]) | skip)
          have H' := Aside0.mk H
          clear H
          go_wp2
          go_meet
          case rel => exact ⟨_, (true), (by first | rfl | (simp; done) | (simp [*]; done)), H', ⟨by first | omega | exact Nat.le_refl _⟩, ⟨by (with_reducible repeat (first | apply Kd.R_alloc | apply Kd.R_drewN | apply Kd.R_drew)); exact Kd.R_mono (Kd.R_far (p := ⟨gb25, 2, none⟩) (Kd.R_far (p := ⟨gb25, 1, none⟩) (Kd.R_far (p := ⟨gb25, 0, none⟩) (Kd.R_types HO16.out BK25.out (by decide)) (fun _ hk => hk.2) (.slice Ao16 t14.length co16)) (fun _ hk => hk.2) (.slice Ao19 t17.length co19)) (fun _ hk => hk.2) (.slice Ao20 t20.length co20)) (fun _ hk => trivial)⟩, ⟨by (with_reducible repeat (first | apply Kd.R_alloc | apply Kd.R_drewN | apply Kd.R_drew)); exact Kd.R_mono (Kd.R_far (p := ⟨gb25, 2, none⟩) (Kd.R_far (p := ⟨gb25, 1, none⟩) (Kd.R_far (p := ⟨gb25, 0, none⟩) (Kd.R_types HO19.out BK25.out (by decide)) (fun _ hk => hk.2) (.slice Ao16 t14.length co16)) (fun _ hk => hk.2) (.slice Ao19 t17.length co19)) (fun _ hk => hk.2) (.slice Ao20 t20.length co20)) (fun _ hk => hk.1)⟩, ⟨by (with_reducible repeat (first | apply Kd.R_alloc | apply Kd.R_drewN | apply Kd.R_drew)); exact Kd.R_mono (Kd.R_far (p := ⟨gb25, 2, none⟩) (Kd.R_far (p := ⟨gb25, 1, none⟩) (Kd.R_far (p := ⟨gb25, 0, none⟩) (Kd.R_types HO22.out BK25.out (by decide)) (fun _ hk => hk.2) (.slice Ao16 t14.length co16)) (fun _ hk => hk.2) (.slice Ao19 t17.length co19)) (fun _ hk => hk.2) (.slice Ao20 t20.length co20)) (fun _ hk => hk.1)⟩, ⟨by (with_reducible repeat (first | refine blk_drewN ?_ _ | refine blk_drew ?_ | refine blk_alloc ?_ _)); refine blk_far ?_ NB11_25.out _; (with_reducible repeat (first | refine blk_drewN ?_ _ | refine blk_drew ?_ | refine blk_alloc ?_ _)); refine blk_far ?_ NB11_25.out _; (with_reducible repeat (first | refine blk_drewN ?_ _ | refine blk_drew ?_ | refine blk_alloc ?_ _)); refine blk_far ?_ NB11_25.out _; (with_reducible repeat (first | refine blk_drewN ?_ _ | refine blk_drew ?_ | refine blk_alloc ?_ _)); exact BK11.out⟩, ⟨by (with_reducible repeat (first | refine blk_drewN ?_ _ | refine blk_drew ?_ | refine blk_alloc ?_ _)); refine blk_put (cs := #[.slice Ao16 t14.length co16, .slice Ao19 t17.length co19, .slice none 0 0]) ?_ 2 _ rfl; (with_reducible repeat (first | refine blk_drewN ?_ _ | refine blk_drew ?_ | refine blk_alloc ?_ _)); refine blk_put (cs := #[.slice Ao16 t14.length co16, .slice none 0 0, .slice none 0 0]) ?_ 1 _ rfl; (with_reducible repeat (first | refine blk_drewN ?_ _ | refine blk_drew ?_ | refine blk_alloc ?_ _)); refine blk_put (cs := #[.slice none 0 0, .slice none 0 0, .slice none 0 0]) ?_ 0 _ rfl; (with_reducible repeat (first | refine blk_drewN ?_ _ | refine blk_drew ?_ | refine blk_alloc ?_ _)); exact BK25.out⟩, ⟨by repeat (first | (with_reducible first | exact HB.out | apply below_alloc | apply pw_below_drewN | apply below_drew1 | refine below_set ?_ GE11.out | refine below_set ?_ GE25.out) | exact HB.out)⟩⟩
      · replace c22 := Bool.eq_false_iff.mpr c22
        subst c22
        have H1 : (roadbooklaw16_MemoMust.j0 k a1 a2 l3 true true l0_0 l0_1 l0_2 t14 t17 t20) = some r := by rw [if_neg (show ¬ (false = true) by decide)] at H; exact H
        clear H
        have H := H1
        clear H1
        have H' := Aside0.mk H
        clear H
        go_wp2
        go_meet
        case rel => exact ⟨_, (true), (by first | rfl | (simp; done) | (simp [*]; done)), H', ⟨by first | omega | exact Nat.le_refl _⟩, ⟨by (with_reducible repeat (first | apply Kd.R_alloc | apply Kd.R_drewN | apply Kd.R_drew)); exact Kd.R_mono (Kd.R_far (p := ⟨gb25, 2, none⟩) (Kd.R_far (p := ⟨gb25, 1, none⟩) (Kd.R_far (p := ⟨gb25, 0, none⟩) (Kd.R_types HO16.out BK25.out (by decide)) (fun _ hk => hk.2) (.slice Ao16 t14.length co16)) (fun _ hk => hk.2) (.slice Ao19 t17.length co19)) (fun _ hk => hk.2) (.slice Ao20 t20.length co20)) (fun _ hk => trivial)⟩, ⟨by (with_reducible repeat (first | apply Kd.R_alloc | apply Kd.R_drewN | apply Kd.R_drew)); exact Kd.R_mono (Kd.R_far (p := ⟨gb25, 2, none⟩) (Kd.R_far (p := ⟨gb25, 1, none⟩) (Kd.R_far (p := ⟨gb25, 0, none⟩) (Kd.R_types HO19.out BK25.out (by decide)) (fun _ hk => hk.2) (.slice Ao16 t14.length co16)) (fun _ hk => hk.2) (.slice Ao19 t17.length co19)) (fun _ hk => hk.2) (.slice Ao20 t20.length co20)) (fun _ hk => hk.1)⟩, ⟨by (with_reducible repeat (first | apply Kd.R_alloc | apply Kd.R_drewN | apply Kd.R_drew)); exact Kd.R_mono (Kd.R_far (p := ⟨gb25, 2, none⟩) (Kd.R_far (p := ⟨gb25, 1, none⟩) (Kd.R_far (p := ⟨gb25, 0, none⟩) (Kd.R_types HO22.out BK25.out (by decide)) (fun _ hk => hk.2) (.slice Ao16 t14.length co16)) (fun _ hk => hk.2) (.slice Ao19 t17.length co19)) (fun _ hk => hk.2) (.slice Ao20 t20.length co20)) (fun _ hk => hk.1)⟩, ⟨by (with_reducible repeat (first | refine blk_drewN ?_ _ | refine blk_drew ?_ | refine blk_alloc ?_ _)); refine blk_far ?_ NB11_25.out _; (with_reducible repeat (first | refine blk_drewN ?_ _ | refine blk_drew ?_ | refine blk_alloc ?_ _)); refine blk_far ?_ NB11_25.out _; (with_reducible repeat (first | refine blk_drewN ?_ _ | refine blk_drew ?_ | refine blk_alloc ?_ _)); refine blk_far ?_ NB11_25.out _; (with_reducible repeat (first | refine blk_drewN ?_ _ | refine blk_drew ?_ | refine blk_alloc ?_ _)); exact BK11.out⟩, ⟨by (with_reducible repeat (first | refine blk_drewN ?_ _ | refine blk_drew ?_ | refine blk_alloc ?_ _)); refine blk_put (cs := #[.slice Ao16 t14.length co16, .slice Ao19 t17.length co19, .slice none 0 0]) ?_ 2 _ rfl; (with_reducible repeat (first | refine blk_drewN ?_ _ | refine blk_drew ?_ | refine blk_alloc ?_ _)); refine blk_put (cs := #[.slice Ao16 t14.length co16, .slice none 0 0, .slice none 0 0]) ?_ 1 _ rfl; (with_reducible repeat (first | refine blk_drewN ?_ _ | refine blk_drew ?_ | refine blk_alloc ?_ _)); refine blk_put (cs := #[.slice none 0 0, .slice none 0 0, .slice none 0 0]) ?_ 0 _ rfl; (with_reducible repeat (first | refine blk_drewN ?_ _ | refine blk_drew ?_ | refine blk_alloc ?_ _)); exact BK25.out⟩, ⟨by repeat (first | (with_reducible first | exact HB.out | apply below_alloc | apply pw_below_drewN | apply below_drew1 | refine below_set ?_ GE11.out | refine below_set ?_ GE25.out) | exact HB.out)⟩⟩
    · replace c21 := Bool.eq_false_iff.mpr c21
      subst c21
      have H1 : (roadbooklaw16_MemoMust.j0 k a1 a2 l3 false true l0_0 l0_1 l0_2 t14 t17 t20) = some r := by rw [if_neg (show ¬ (false = true) by decide)] at H; exact H
      clear H
      have H := H1
      clear H1
      have H' := Aside0.mk H
      clear H
      go_wp2
      go_meet
      case rel => exact ⟨_, (true), (by first | rfl | (simp; done) | (simp [*]; done)), H', ⟨by first | omega | exact Nat.le_refl _⟩, ⟨by (with_reducible repeat (first | apply Kd.R_alloc | apply Kd.R_drewN | apply Kd.R_drew)); exact Kd.R_mono (Kd.R_far (p := ⟨gb25, 2, none⟩) (Kd.R_far (p := ⟨gb25, 1, none⟩) (Kd.R_far (p := ⟨gb25, 0, none⟩) (Kd.R_types HO16.out BK25.out (by decide)) (fun _ hk => hk.2) (.slice Ao16 t14.length co16)) (fun _ hk => hk.2) (.slice Ao19 t17.length co19)) (fun _ hk => hk.2) (.slice Ao20 t20.length co20)) (fun _ hk => trivial)⟩, ⟨by (with_reducible repeat (first | apply Kd.R_alloc | apply Kd.R_drewN | apply Kd.R_drew)); exact Kd.R_mono (Kd.R_far (p := ⟨gb25, 2, none⟩) (Kd.R_far (p := ⟨gb25, 1, none⟩) (Kd.R_far (p := ⟨gb25, 0, none⟩) (Kd.R_types HO19.out BK25.out (by decide)) (fun _ hk => hk.2) (.slice Ao16 t14.length co16)) (fun _ hk => hk.2) (.slice Ao19 t17.length co19)) (fun _ hk => hk.2) (.slice Ao20 t20.length co20)) (fun _ hk => hk.1)⟩, ⟨by (with_reducible repeat (first | apply Kd.R_alloc | apply Kd.R_drewN | apply Kd.R_drew)); exact Kd.R_mono (Kd.R_far (p := ⟨gb25, 2, none⟩) (Kd.R_far (p := ⟨gb25, 1, none⟩) (Kd.R_far (p := ⟨gb25, 0, none⟩) (Kd.R_types HO22.out BK25.out (by decide)) (fun _ hk => hk.2) (.slice Ao16 t14.length co16)) (fun _ hk => hk.2) (.slice Ao19 t17.length co19)) (fun _ hk => hk.2) (.slice Ao20 t20.length co20)) (fun _ hk => hk.1)⟩, ⟨by (with_reducible repeat (first | refine blk_drewN ?_ _ | refine blk_drew ?_ | refine blk_alloc ?_ _)); refine blk_far ?_ NB11_25.out _; (with_reducible repeat (first | refine blk_drewN ?_ _ | refine blk_drew ?_ | refine blk_alloc ?_ _)); refine blk_far ?_ NB11_25.out _; (with_reducible repeat (first | refine blk_drewN ?_ _ | refine blk_drew ?_ | refine blk_alloc ?_ _)); refine blk_far ?_ NB11_25.out _; (with_reducible repeat (first | refine blk_drewN ?_ _ | refine blk_drew ?_ | refine blk_alloc ?_ _)); exact BK11.out⟩, ⟨by (with_reducible repeat (first | refine blk_drewN ?_ _ | refine blk_drew ?_ | refine blk_alloc ?_ _)); refine blk_put (cs := #[.slice Ao16 t14.length co16, .slice Ao19 t17.length co19, .slice none 0 0]) ?_ 2 _ rfl; (with_reducible repeat (first | refine blk_drewN ?_ _ | refine blk_drew ?_ | refine blk_alloc ?_ _)); refine blk_put (cs := #[.slice Ao16 t14.length co16, .slice none 0 0, .slice none 0 0]) ?_ 1 _ rfl; (with_reducible repeat (first | refine blk_drewN ?_ _ | refine blk_drew ?_ | refine blk_alloc ?_ _)); refine blk_put (cs := #[.slice none 0 0, .slice none 0 0, .slice none 0 0]) ?_ 0 _ rfl; (with_reducible repeat (first | refine blk_drewN ?_ _ | refine blk_drew ?_ | refine blk_alloc ?_ _)); exact BK25.out⟩, ⟨by repeat (first | (with_reducible first | exact HB.out | apply below_alloc | apply pw_below_drewN | apply below_drew1 | refine below_set ?_ GE11.out | refine below_set ?_ GE25.out) | exact HB.out)⟩⟩
  case rest =>
    clear HC8
    try clear c1
    try clear c2
    try clear p2
    try clear c3
    try clear c4
    try clear c9
    try clear c17
    try clear c21
    try clear c22
    try clear c23
    try clear c23b0
    try clear c23b1
    try clear c24
    try clear c24b0
    try clear c24b1
    try clear c24b2
    try clear c26
    try clear c28
    try clear hcz11_0
    try clear hcz11_1
    try clear hcz11_2
    try clear hcz13_0
    try clear hcz13_1
    try clear hcz13_2
    try clear hcz18_0
    try clear hcz18_1
    try clear hcz18_2
    try clear hcz27_0
    try clear hcz27_1
    try clear hcz27_2
    try clear hcz29_0
    try clear hcz29_1
    try clear hcz29_2
    try clear hfz11_0
    try clear hfz11_1
    try clear hfz11_2
    try clear hfz13_0
    try clear hfz13_1
    try clear hfz13_2
    try clear hfz18_0
    try clear hfz18_1
    try clear hfz18_2
    try clear hfz27_0
    try clear hfz27_1
    try clear hfz27_2
    try clear hfz29_0
    try clear hfz29_1
    try clear hfz29_2
    obtain ⟨kq, x50_7, rfl, HA, HJ7, HO_26000, HO_26001, HO_26002, BK11, BK25, HB⟩ := hcut
    cases kq with
    | zero => exact absurd HA.out (by simp [roadbooklaw16_MemoMust.j0])
    | succ kj7 =>
      have H := HA.out
      clear HA
      simp only [roadbooklaw16_MemoMust.j0] at H
      by_cases c30 : x50_7 = true
      · subst c30
        have H1 : (some t12) = some r := by rw [if_pos rfl] at H; exact H
        clear H
        have H := H1
        clear H1
        obtain rfl := Option.some.inj H
        go_wp2
        go_ret
        exact ⟨by first | rfl | (simp [errW_none, errW_some] <;> rfl) | (simp [*, errW_none, errW_some] <;> rfl), by repeat (first | (with_reducible first | exact HB.out | apply below_alloc | apply pw_below_drewN | apply below_drew1 | refine below_set ?_ GE11.out | refine below_set ?_ GE25.out) | exact HB.out)⟩
      · replace c30 := Bool.eq_false_iff.mpr c30
        subst c30
        have H1 : (roadbooklaw16_MemoMust.l0 kj7 a1 a2 l3 0 l0_0 l0_1 l0_2 t14 t17 t20 l0_0 l0_1 l3) = some r := by rw [if_neg (show ¬ (false = true) by decide)] at H; exact H
        clear H
        have H := H1
        clear H1
        have H' := Aside0.mk H
        clear H
        have hnb31 := NB11_25.out
        have hnc31 := NB25_11.out
        have hcz32_0 : wc.cell? ⟨gb11, 0, none⟩ = some (.slice A0_0 l0_0.length c0_0) := (blk_cell BK11.out 0).trans rfl
        have hcz32_1 : wc.cell? ⟨gb11, 1, none⟩ = some (.slice A0_1 l0_1.length c0_1) := (blk_cell BK11.out 1).trans rfl
        have hcz32_2 : wc.cell? ⟨gb11, 2, none⟩ = some (.slice A0_2 l0_2.length c0_2) := (blk_cell BK11.out 2).trans rfl
        have hfz32_0 := blk_frozen BK11.out 0
        have hfz32_1 := blk_frozen BK11.out 1
        have hfz32_2 := blk_frozen BK11.out 2
        go_wp2_with (first | ((with_reducible refine gate_dst (N := 14) rfl ?_); (try (refine gate_guard (by rfl) ?_; dsimp only)); refine box_event ?hg (N := 14) ?hd (cs := #[.slice none 0 0, .slice none 0 0, .slice none 0 0]) (t := 38) ?hr ?_; (case hd => rfl); (case hg => rfl); (case hr => first | (go_simp; done) | (go_simp; rfl)); intro gb27 hg w33 hbox hb; have n0_ := Aside0.mk (Kd.R_below (by (with_reducible repeat (first | apply Kd.R_alloc | apply Kd.R_drewN | apply Kd.R_drew)); exact HO_26000.out) hb); have n1_ := Aside0.mk (Kd.R_below (by (with_reducible repeat (first | apply Kd.R_alloc | apply Kd.R_drewN | apply Kd.R_drew)); exact HO_26001.out) hb); have n2_ := Aside0.mk (Kd.R_below (by (with_reducible repeat (first | apply Kd.R_alloc | apply Kd.R_drewN | apply Kd.R_drew)); exact HO_26002.out) hb); have n3_ := Aside0.mk (blk_below (g := gb11) (o := .cells #[.slice A0_0 l0_0.length c0_0, .slice A0_1 l0_1.length c0_1, .slice A0_2 l0_2.length c0_2] 38 (0, 0)) (by (with_reducible repeat (first | refine blk_drewN ?_ _ | refine blk_drew ?_ | refine blk_alloc ?_ _)); exact BK11.out) hb); have n4_ := Aside0.mk (blk_below (g := gb25) (o := .cells #[.slice Ao16 t14.length co16, .slice Ao19 t17.length co19, .slice Ao20 t20.length co20] 38 (0, 0)) (by (with_reducible repeat (first | refine blk_drewN ?_ _ | refine blk_drew ?_ | refine blk_alloc ?_ _)); exact BK25.out) hb); have n5_ := Aside0.mk (below_step (by repeat (first | (with_reducible first | exact HB.out | apply below_alloc | apply pw_below_drewN | apply below_drew1 | refine below_set ?_ GE11.out | refine below_set ?_ GE25.out) | exact HB.out)) hb); have n6_ := Aside0.mk (hbox); have n7_ := Aside0.mk ((by rw [hg]; exact (below_size (by repeat (first | (with_reducible first | exact HB.out | apply below_alloc | apply pw_below_drewN | apply below_drew1 | refine below_set ?_ GE11.out | refine below_set ?_ GE25.out) | exact HB.out))) : w.heap.size ≤ gb27)); have n8_ := Aside0.mk ((by rw [hg]; exact (below_size (by repeat (first | (with_reducible first | exact HB.out | apply below_alloc | apply pw_below_drewN | apply below_drew1 | refine below_set ?_ GE11.out | refine below_set ?_ GE25.out) | exact HB.out))) : w.heap.size ≤ gb27)); have n9_ := Aside0.mk ((by rw [hg]; exact Nat.ne_of_lt (blk_lt (g := gb11) (o := .cells #[.slice A0_0 l0_0.length c0_0, .slice A0_1 l0_1.length c0_1, .slice A0_2 l0_2.length c0_2] 38 (0, 0)) (by (with_reducible repeat (first | refine blk_drewN ?_ _ | refine blk_drew ?_ | refine blk_alloc ?_ _)); exact BK11.out)) : gb11 ≠ gb27)); have n10_ := Aside0.mk ((by rw [hg]; exact Nat.ne_of_gt (blk_lt (g := gb11) (o := .cells #[.slice A0_0 l0_0.length c0_0, .slice A0_1 l0_1.length c0_1, .slice A0_2 l0_2.length c0_2] 38 (0, 0)) (by (with_reducible repeat (first | refine blk_drewN ?_ _ | refine blk_drew ?_ | refine blk_alloc ?_ _)); exact BK11.out)) : gb27 ≠ gb11)); have n11_ := Aside0.mk ((by rw [hg]; exact Nat.ne_of_lt (blk_lt (g := gb25) (o := .cells #[.slice Ao16 t14.length co16, .slice Ao19 t17.length co19, .slice Ao20 t20.length co20] 38 (0, 0)) (by (with_reducible repeat (first | refine blk_drewN ?_ _ | refine blk_drew ?_ | refine blk_alloc ?_ _)); exact BK25.out)) : gb25 ≠ gb27)); have n12_ := Aside0.mk ((by rw [hg]; exact Nat.ne_of_gt (blk_lt (g := gb25) (o := .cells #[.slice Ao16 t14.length co16, .slice Ao19 t17.length co19, .slice Ao20 t20.length co20] 38 (0, 0)) (by (with_reducible repeat (first | refine blk_drewN ?_ _ | refine blk_drew ?_ | refine blk_alloc ?_ _)); exact BK25.out)) : gb27 ≠ gb25)); clear HO_26000; clear HO_26001; clear HO_26002; clear BK11; clear BK25; clear HB; have HO_26000 := n0_; have HO_26001 := n1_; have HO_26002 := n2_; have BK11 := n3_; have BK25 := n4_; have HB := n5_; have BK27 := n6_; have GW27 := n7_; have GE27 := n8_; have NB11_27 := n9_; have NB27_11 := n10_; have NB25_27 := n11_; have NB27_25 := n12_; clear n0_ n1_ n2_ n3_ n4_ n5_ n6_ n7_ n8_ n9_ n10_ n11_ n12_; clear hb hbox hg; have hnb34 := NB27_11.out; have hnc34 := NB11_27.out; have hnb35 := NB27_25.out; have hnc35 := NB25_27.out; have hcz36_0 : w33.cell? ⟨gb27, 0, none⟩ = some (.slice none 0 0) := (blk_cell BK27.out 0).trans rfl; have hcz36_1 : w33.cell? ⟨gb27, 1, none⟩ = some (.slice none 0 0) := (blk_cell BK27.out 1).trans rfl; have hcz36_2 : w33.cell? ⟨gb27, 2, none⟩ = some (.slice none 0 0) := (blk_cell BK27.out 2).trans rfl; have hfz36_0 := blk_frozen BK27.out 0; have hfz36_1 := blk_frozen BK27.out 1; have hfz36_2 := blk_frozen BK27.out 2))
        go_loopg [15] kj7 (fun kq v15 w' => ∃ (x15_2 : Int), v15 = .int .i64 x15_2 ∧ Aside0 (roadbooklaw16_MemoMust.l0 kq a1 a2 l3 x15_2 l0_0 l0_1 l0_2 t14 t17 t20 l0_0 l0_1 l3 = some r) ∧ Aside0 (kq ≤ kj7) ∧ Aside0 (Kd.R k48 48 w' w.heap.size (fun _ => True) (.slice Ao16 t14.length co16) t14) ∧ Aside0 (Kd.R (Kd.int .i64) 3 w' w.heap.size (fun k_ => some k_ ≠ ((.slice Ao20 t20.length co20) : Value).ownBlock) (.slice Ao19 t17.length co19) t17) ∧ Aside0 (Kd.R (Kd.int .i64) 3 w' w.heap.size (fun k_ => some k_ ≠ ((.slice Ao19 t17.length co19) : Value).ownBlock) (.slice Ao20 t20.length co20) t20) ∧ Aside0 (w'.heap[gb11]? = some (.cells #[(.slice A0_0 l0_0.length c0_0), (.slice A0_1 l0_1.length c0_1), (.slice A0_2 l0_2.length c0_2)] 38 (0, 0))) ∧ Aside0 (w'.heap[gb25]? = some (.cells #[(.slice Ao16 t14.length co16), (.slice Ao19 t17.length co19), (.slice Ao20 t20.length co20)] 38 (0, 0))) ∧ Aside0 (w'.heap[gb27]? = some (.cells #[(.slice A0_0 l0_0.length c0_0), (.slice A0_1 l0_1.length c0_1), (.slice A3 l3.length c3)] 38 (0, 0))) ∧ Aside0 (Below w.heap.size w w'))
        case atStart => exact ⟨(0), (by first | rfl | (simp; done) | (simp [*]; done)), H', ⟨Nat.le_refl _⟩, ⟨by (with_reducible repeat (first | apply Kd.R_alloc | apply Kd.R_drewN | apply Kd.R_drew)); exact Kd.R_mono (Kd.R_far (p := ⟨gb27, 2, none⟩) (Kd.R_far (p := ⟨gb27, 2, none⟩) (Kd.R_far (p := ⟨gb27, 1, none⟩) (Kd.R_far (p := ⟨gb27, 0, none⟩) (Kd.R_types HO_26000.out BK27.out (by decide)) (fun _ hk => hk.2) (.slice A0_0 l0_0.length c0_0)) (fun _ hk => hk.2) (.slice A0_1 l0_1.length c0_1)) (fun _ hk => hk.2) (.slice A0_2 l0_2.length c0_2)) (fun _ hk => hk.2) (.slice A3 l3.length c3)) (fun _ hk => trivial)⟩, ⟨by (with_reducible repeat (first | apply Kd.R_alloc | apply Kd.R_drewN | apply Kd.R_drew)); exact Kd.R_mono (Kd.R_far (p := ⟨gb27, 2, none⟩) (Kd.R_far (p := ⟨gb27, 2, none⟩) (Kd.R_far (p := ⟨gb27, 1, none⟩) (Kd.R_far (p := ⟨gb27, 0, none⟩) (Kd.R_types HO_26001.out BK27.out (by decide)) (fun _ hk => hk.2) (.slice A0_0 l0_0.length c0_0)) (fun _ hk => hk.2) (.slice A0_1 l0_1.length c0_1)) (fun _ hk => hk.2) (.slice A0_2 l0_2.length c0_2)) (fun _ hk => hk.2) (.slice A3 l3.length c3)) (fun _ hk => hk.1)⟩, ⟨by (with_reducible repeat (first | apply Kd.R_alloc | apply Kd.R_drewN | apply Kd.R_drew)); exact Kd.R_mono (Kd.R_far (p := ⟨gb27, 2, none⟩) (Kd.R_far (p := ⟨gb27, 2, none⟩) (Kd.R_far (p := ⟨gb27, 1, none⟩) (Kd.R_far (p := ⟨gb27, 0, none⟩) (Kd.R_types HO_26002.out BK27.out (by decide)) (fun _ hk => hk.2) (.slice A0_0 l0_0.length c0_0)) (fun _ hk => hk.2) (.slice A0_1 l0_1.length c0_1)) (fun _ hk => hk.2) (.slice A0_2 l0_2.length c0_2)) (fun _ hk => hk.2) (.slice A3 l3.length c3)) (fun _ hk => hk.1)⟩, ⟨by (with_reducible repeat (first | refine blk_drewN ?_ _ | refine blk_drew ?_ | refine blk_alloc ?_ _)); refine blk_far ?_ NB11_27.out _; (with_reducible repeat (first | refine blk_drewN ?_ _ | refine blk_drew ?_ | refine blk_alloc ?_ _)); refine blk_far ?_ NB11_27.out _; (with_reducible repeat (first | refine blk_drewN ?_ _ | refine blk_drew ?_ | refine blk_alloc ?_ _)); refine blk_far ?_ NB11_27.out _; (with_reducible repeat (first | refine blk_drewN ?_ _ | refine blk_drew ?_ | refine blk_alloc ?_ _)); refine blk_far ?_ NB11_27.out _; (with_reducible repeat (first | refine blk_drewN ?_ _ | refine blk_drew ?_ | refine blk_alloc ?_ _)); exact BK11.out⟩, ⟨by (with_reducible repeat (first | refine blk_drewN ?_ _ | refine blk_drew ?_ | refine blk_alloc ?_ _)); refine blk_far ?_ NB25_27.out _; (with_reducible repeat (first | refine blk_drewN ?_ _ | refine blk_drew ?_ | refine blk_alloc ?_ _)); refine blk_far ?_ NB25_27.out _; (with_reducible repeat (first | refine blk_drewN ?_ _ | refine blk_drew ?_ | refine blk_alloc ?_ _)); refine blk_far ?_ NB25_27.out _; (with_reducible repeat (first | refine blk_drewN ?_ _ | refine blk_drew ?_ | refine blk_alloc ?_ _)); refine blk_far ?_ NB25_27.out _; (with_reducible repeat (first | refine blk_drewN ?_ _ | refine blk_drew ?_ | refine blk_alloc ?_ _)); exact BK25.out⟩, ⟨by (with_reducible repeat (first | refine blk_drewN ?_ _ | refine blk_drew ?_ | refine blk_alloc ?_ _)); refine blk_put (cs := #[.slice A0_0 l0_0.length c0_0, .slice A0_1 l0_1.length c0_1, .slice A0_2 l0_2.length c0_2]) ?_ 2 _ rfl; (with_reducible repeat (first | refine blk_drewN ?_ _ | refine blk_drew ?_ | refine blk_alloc ?_ _)); refine blk_put (cs := #[.slice A0_0 l0_0.length c0_0, .slice A0_1 l0_1.length c0_1, .slice none 0 0]) ?_ 2 _ rfl; (with_reducible repeat (first | refine blk_drewN ?_ _ | refine blk_drew ?_ | refine blk_alloc ?_ _)); refine blk_put (cs := #[.slice A0_0 l0_0.length c0_0, .slice none 0 0, .slice none 0 0]) ?_ 1 _ rfl; (with_reducible repeat (first | refine blk_drewN ?_ _ | refine blk_drew ?_ | refine blk_alloc ?_ _)); refine blk_put (cs := #[.slice none 0 0, .slice none 0 0, .slice none 0 0]) ?_ 0 _ rfl; (with_reducible repeat (first | refine blk_drewN ?_ _ | refine blk_drew ?_ | refine blk_alloc ?_ _)); exact BK27.out⟩, ⟨by repeat (first | (with_reducible first | exact HB.out | apply below_alloc | apply pw_below_drewN | apply below_drew1 | refine below_set ?_ GE11.out | refine below_set ?_ GE25.out | refine below_set ?_ GE27.out) | exact HB.out)⟩⟩
        case round =>
          clear H'
          try clear c1
          try clear c2
          try clear p2
          try clear c3
          try clear c4
          try clear c9
          try clear c17
          try clear c21
          try clear c22
          try clear c23
          try clear c23b0
          try clear c23b1
          try clear c24
          try clear c24b0
          try clear c24b1
          try clear c24b2
          try clear c26
          try clear c28
          try clear c30
          try clear c31
          try clear c34
          try clear c35
          try clear hcz11_0
          try clear hcz11_1
          try clear hcz11_2
          try clear hcz13_0
          try clear hcz13_1
          try clear hcz13_2
          try clear hcz18_0
          try clear hcz18_1
          try clear hcz18_2
          try clear hcz27_0
          try clear hcz27_1
          try clear hcz27_2
          try clear hcz29_0
          try clear hcz29_1
          try clear hcz29_2
          try clear hcz32_0
          try clear hcz32_1
          try clear hcz32_2
          try clear hcz36_0
          try clear hcz36_1
          try clear hcz36_2
          try clear hfz11_0
          try clear hfz11_1
          try clear hfz11_2
          try clear hfz13_0
          try clear hfz13_1
          try clear hfz13_2
          try clear hfz18_0
          try clear hfz18_1
          try clear hfz18_2
          try clear hfz27_0
          try clear hfz27_1
          try clear hfz27_2
          try clear hfz29_0
          try clear hfz29_1
          try clear hfz29_2
          try clear hfz32_0
          try clear hfz32_1
          try clear hfz32_2
          try clear hfz36_0
          try clear hfz36_1
          try clear hfz36_2
          try clear p2
          obtain ⟨x15_2, rfl, HA, HK2, HO_26000, HO_26001, HO_26002, BK11, BK25, BK27, HB⟩ := hrel
          cases gk with
          | zero => exact absurd HA.out (by simp [roadbooklaw16_MemoMust.l0])
          | succ k2 =>
            have H := HA.out
            clear HA
            simp only [roadbooklaw16_MemoMust.l0] at H
            by_cases c37 : x15_2 < (l0_2.length : Int)
            · rw [if_pos c37] at H
              have c37b0 : decide (x15_2 < (l0_2.length : Int)) = true := decide_eq_true c37
              clear c37
              replace H := Option.bind_eq_some_iff.mp H
              obtain ⟨t28, A380, H⟩ := H
              replace H : ((sets_Find.f k2 l0_2 x15_2).bind fun t29 => ((sets_Find.f k2 l3 t29).bind fun t30 => (if t28 = t30 then (roadbooklaw16_MemoMust.l0 k2 a1 a2 l3 (wrap64 (x15_2 + 1)) l0_0 l0_1 l0_2 t14 t17 t20 l0_0 l0_1 l3) else (some true)))) = some r := H
              have A38 := Aside0.mk A380
              clear A380
              replace H := Option.bind_eq_some_iff.mp H
              obtain ⟨t29, A390, H⟩ := H
              replace H : ((sets_Find.f k2 l3 t29).bind fun t30 => (if t28 = t30 then (roadbooklaw16_MemoMust.l0 k2 a1 a2 l3 (wrap64 (x15_2 + 1)) l0_0 l0_1 l0_2 t14 t17 t20 l0_0 l0_1 l3) else (some true))) = some r := H
              have A39 := Aside0.mk A390
              clear A390
              replace H := Option.bind_eq_some_iff.mp H
              obtain ⟨t30, A400, H⟩ := H
              replace H : (if t28 = t30 then (roadbooklaw16_MemoMust.l0 k2 a1 a2 l3 (wrap64 (x15_2 + 1)) l0_0 l0_1 l0_2 t14 t17 t20 l0_0 l0_1 l3) else (some true)) = some r := H
              have A40 := Aside0.mk A400
              clear A400
              by_cases c41 : t28 = t30
              · rw [if_pos c41] at H
                have c41b0 : (t28 == t30) = true := beq_iff_eq.mpr c41
                have c41b1 : (t28 != t30) = false := bne_eq_false_iff_eq.mpr c41
                clear c41
                have H' := Aside0.mk H
                clear H
                have hnb42 := NB11_25.out
                have hnc42 := NB25_11.out
                have hnb43 := NB11_27.out
                have hnc43 := NB27_11.out
                have hcz44_0 : wr.cell? ⟨gb11, 0, none⟩ = some (.slice A0_0 l0_0.length c0_0) := (blk_cell BK11.out 0).trans rfl
                have hcz44_1 : wr.cell? ⟨gb11, 1, none⟩ = some (.slice A0_1 l0_1.length c0_1) := (blk_cell BK11.out 1).trans rfl
                have hcz44_2 : wr.cell? ⟨gb11, 2, none⟩ = some (.slice A0_2 l0_2.length c0_2) := (blk_cell BK11.out 2).trans rfl
                have hfz44_0 := blk_frozen BK11.out 0
                have hfz44_1 := blk_frozen BK11.out 1
                have hfz44_2 := blk_frozen BK11.out 2
                try go_wp2
                have n0_ := Aside0.mk (Kd.R_drew HO_26000.out)
                have n1_ := Aside0.mk (Kd.R_drew HO_26001.out)
                have n2_ := Aside0.mk (Kd.R_drew HO_26002.out)
                have n3_ := Aside0.mk (blk_drew BK11.out)
                have n4_ := Aside0.mk (blk_drew BK25.out)
                have n5_ := Aside0.mk (blk_drew BK27.out)
                have n6_ := Aside0.mk (below_drew1 HB.out)
                clear HO_26000
                clear HO_26001
                clear HO_26002
                clear BK11
                clear BK25
                clear BK27
                clear HB
                have HO_26000 := n0_
                have HO_26001 := n1_
                have HO_26002 := n2_
                have BK11 := n3_
                have BK25 := n4_
                have BK27 := n5_
                have HB := n6_
                clear n0_ n1_ n2_ n3_ n4_ n5_ n6_
                refine start_ (n := 10) (S := fun w' => w'.cell? ⟨gb11, 0, none⟩ = some (.slice A0_0 l0_0.length c0_0) ∧ w'.cell? ⟨gb11, 1, none⟩ = some (.slice A0_1 l0_1.length c0_1) ∧ w'.cell? ⟨gb11, 2, none⟩ = some (.slice A0_2 l0_2.length c0_2)) (ds := []) #[false, false, false, false, false, false, false, false, false, false] (by kernel_rfl) rfl rfl ⟨(blk_cell BK11.out 0).trans rfl, (blk_cell BK11.out 1).trans rfl, (blk_cell BK11.out 2).trans rfl⟩ (fun hHeld => ?_); refine with_tabW roadbooklaw16_MemoMust.tab11 roadbooklaw16_MemoMust.bits11 (fun HT_ HW_ => ?_)
                generalize wr.drew = w45 at HO_26000 HO_26001 HO_26002 BK11 BK25 BK27 HB hHeld ⊢
                refine pure_ (i := 0) (N := some 62) (v := ?_) (a' := ?_) #[true, false, false, false, false, false, false, false, false, false] rfl rfl (any_of HT_.out (by kernel_rfl)) (fun _ _ _ h => h) (Or.inl ⟨by rfl, ?_⟩) ?_ ?_
                rotate_left
                · intro w'
                  go_simp
                  with_reducible rfl
                rotate_left
                · simp only [Act.put, List.setIfInBounds_toArray, List.set_cons_zero, List.set_cons_succ, i64_w, i32_w]
                  rfl
                refine pure_ (i := 1) (N := some 63) (v := ?_) (a' := ?_) #[true, true, false, false, false, false, false, false, false, false] rfl rfl (any_of HT_.out (by kernel_rfl)) (fun _ _ _ h => h) (Or.inl ⟨by rfl, ?_⟩) ?_ ?_
                rotate_left
                · intro w'
                  go_simp
                  with_reducible rfl
                rotate_left
                · simp only [Act.put, List.setIfInBounds_toArray, List.set_cons_zero, List.set_cons_succ, i64_w, i32_w]
                  rfl
                refine pure_ (i := 3) (N := some 65) (v := ?_) (a' := ?_) #[true, true, false, true, false, false, false, false, false, false] rfl rfl (any_of HT_.out (by kernel_rfl)) (fun _ _ _ h => h) (Or.inl ⟨by rfl, ?_⟩) ?_ ?_
                rotate_left
                · intro w'
                  go_simp
                  with_reducible rfl
                rotate_left
                · simp only [Act.put, List.setIfInBounds_toArray, List.set_cons_zero, List.set_cons_succ, i64_w, i32_w]
                  rfl
                refine pure_ (i := 4) (N := some 66) (v := ?_) (a' := ?_) #[true, true, false, true, true, false, false, false, false, false] rfl rfl (any_of HT_.out (by kernel_rfl)) (fun _ _ _ h => h) (Or.inl ⟨by rfl, ?_⟩) ?_ ?_
                rotate_left
                · intro w'
                  go_simp
                  with_reducible rfl
                rotate_left
                · simp only [Act.put, List.setIfInBounds_toArray, List.set_cons_zero, List.set_cons_succ, i64_w, i32_w]
                  rfl
                refine pure_ (i := 6) (N := some 68) (v := ?_) (a' := ?_) #[true, true, false, true, true, false, true, false, false, false] rfl rfl (any_of HT_.out (by kernel_rfl)) (fun _ _ _ h => h) (Or.inl ⟨by rfl, ?_⟩) ?_ ?_
                rotate_left
                · intro w'
                  go_simp
                  with_reducible rfl
                rotate_left
                · simp only [Act.put, List.setIfInBounds_toArray, List.set_cons_zero, List.set_cons_succ, i64_w, i32_w]
                  rfl
                refine take_ (i := 5) (N := some 67) (v := ?_) (a' := ?_) #[true, true, false, true, true, true, true, false, false, false] rfl rfl (take_ofW HT_.out HW_.out (by kernel_rfl)) (fun _ _ _ h => h) (Or.inl ⟨by rfl, ?_⟩) hHeld ?_ ?_
                rotate_left
                · rintro w' ⟨s0, s1, s2⟩
                  go_simp
                  with_reducible rfl
                rotate_left
                · simp only [Act.put, List.setIfInBounds_toArray, List.set_cons_zero, List.set_cons_succ, i64_w, i32_w]
                  rfl
                refine one_ (i := 2) (N := some 64) #[true, true, true, true, true, true, true, false, false, false] rfl rfl (one_of HT_.out (by kernel_rfl)) (by decide) (fun K hK => ?_)
                refine goes_ Try.func26 (by kernel_rfl) rfl #[.slice A3 l3.length c3, .int .i64 x15_2] (by rfl) rfl rfl (by (try simp only [List.map_toArray, List.map_cons, List.map_nil]); first | done | rfl | (simp only [List.length_drop, List.length_take]; rfl)) ?_
                with_reducible refine (sets_Find.calls k2 _ _ l3 x15_2 t28 _ ?side1 ?side2 A38.out).mono ?_
                (case side1 => repeat (first | exact (Kd.C_below HR3.out HB.out) | (with_reducible refine Kd.C_alloc ?_ _) | (with_reducible refine Kd.C_drewN ?_ _) | (with_reducible refine Kd.C_drew ?_)))
                (case side2 => exact HC3.out)
                rintro e w' ⟨rfl, ⟨nd, rfl⟩⟩
                refine ⟨_, rfl, ?_⟩
                refine hK.out _ _ ⟨(blk_cell BK11.out 0).trans rfl, (blk_cell BK11.out 1).trans rfl, (blk_cell BK11.out 2).trans rfl⟩ (fun hHeld => ?_)
                clear hK K
                refine norm_ (a' := ?_) ?_ ?_
                rotate_left
                · show Act.put _ (some 64) _ = _
                  simp only [Act.put, List.setIfInBounds_toArray, List.set_cons_zero, List.set_cons_succ, i64_w, i32_w]
                  rfl
                refine one_ (i := 7) (N := some 69) #[true, true, true, true, true, true, true, true, false, false] rfl rfl (one_of HT_.out (by kernel_rfl)) (by decide) (fun K hK => ?_)
                refine goes_ Try.func26 (by kernel_rfl) rfl #[.slice A0_2 l0_2.length c0_2, .int .i64 x15_2] (by rfl) rfl rfl (by (try simp only [List.map_toArray, List.map_cons, List.map_nil]); first | done | rfl | (simp only [List.length_drop, List.length_take]; rfl)) ?_
                with_reducible refine (sets_Find.calls k2 _ _ l0_2 x15_2 t29 _ ?side1 ?side2 A39.out).mono ?_
                (case side1 => repeat (first | exact (Kd.C_below HR0_2.out (by repeat (first | (with_reducible first | exact HB.out | apply below_alloc | apply pw_below_drewN | apply below_drew1 | refine below_set ?_ GE11.out | refine below_set ?_ GE25.out | refine below_set ?_ GE27.out) | exact HB.out))) | (with_reducible refine Kd.C_alloc ?_ _) | (with_reducible refine Kd.C_drewN ?_ _) | (with_reducible refine Kd.C_drew ?_)))
                (case side2 => exact HC0_2.out)
                rintro e w' ⟨rfl, ⟨nd, rfl⟩⟩
                refine ⟨_, rfl, ?_⟩
                refine hK.out _ _ ⟨(blk_cell BK11.out 0).trans rfl, (blk_cell BK11.out 1).trans rfl, (blk_cell BK11.out 2).trans rfl⟩ (fun hHeld => ?_)
                clear hK K
                refine norm_ (a' := ?_) ?_ ?_
                rotate_left
                · show Act.put _ (some 69) _ = _
                  simp only [Act.put, List.setIfInBounds_toArray, List.set_cons_zero, List.set_cons_succ, i64_w, i32_w]
                  rfl
                refine one_ (i := 8) (N := some 70) #[true, true, true, true, true, true, true, true, true, false] rfl rfl (one_of HT_.out (by kernel_rfl)) (by decide) (fun K hK => ?_)
                refine goes_ Try.func26 (by kernel_rfl) rfl #[.slice A3 l3.length c3, .int .i64 t29] (by rfl) rfl rfl (by (try simp only [List.map_toArray, List.map_cons, List.map_nil]); first | done | rfl | (simp only [List.length_drop, List.length_take]; rfl)) ?_
                with_reducible refine (sets_Find.calls k2 _ _ l3 t29 t30 _ ?side1 ?side2 A40.out).mono ?_
                (case side1 => repeat (first | exact (Kd.C_below HR3.out (by repeat (first | (with_reducible first | exact HB.out | apply below_alloc | apply pw_below_drewN | apply below_drew1 | refine below_set ?_ GE11.out | refine below_set ?_ GE25.out | refine below_set ?_ GE27.out) | exact HB.out))) | (with_reducible refine Kd.C_alloc ?_ _) | (with_reducible refine Kd.C_drewN ?_ _) | (with_reducible refine Kd.C_drew ?_)))
                (case side2 => exact HC3.out)
                rintro e w' ⟨rfl, ⟨nd, rfl⟩⟩
                refine ⟨_, rfl, ?_⟩
                refine hK.out _ _ ⟨(blk_cell BK11.out 0).trans rfl, (blk_cell BK11.out 1).trans rfl, (blk_cell BK11.out 2).trans rfl⟩ (fun hHeld => ?_)
                clear hK K
                refine norm_ (a' := ?_) ?_ ?_
                rotate_left
                · show Act.put _ (some 70) _ = _
                  simp only [Act.put, List.setIfInBounds_toArray, List.set_cons_zero, List.set_cons_succ, i64_w, i32_w]
                  rfl
                refine pure_ (i := 9) (N := some 71) (v := ?_) (a' := ?_) #[true, true, true, true, true, true, true, true, true, true] rfl rfl (any_of HT_.out (by kernel_rfl)) (fun _ _ _ h => h) (Or.inl ⟨by rfl, ?_⟩) ?_ ?_
                rotate_left
                · intro w'
                  go_simp
                  with_reducible rfl
                rotate_left
                · simp only [Act.put, List.setIfInBounds_toArray, List.set_cons_zero, List.set_cons_succ, i64_w, i32_w]
                  rfl
                refine done_ (done_of HT_.out (by kernel_rfl)) ?_
                try go_wp2
                go_roundg k2
                case measure => have := HJ7.out; have := HK2.out; omega
                case rel => exact ⟨(wrap64 (x15_2 + 1)), (by first | rfl | (simp; done) | (simp [*]; done)), H', ⟨by have := HJ7.out; have := HK2.out; omega⟩, ⟨by (with_reducible repeat (first | apply Kd.R_alloc | apply Kd.R_drewN | apply Kd.R_drew)); exact HO_26000.out⟩, ⟨by (with_reducible repeat (first | apply Kd.R_alloc | apply Kd.R_drewN | apply Kd.R_drew)); exact HO_26001.out⟩, ⟨by (with_reducible repeat (first | apply Kd.R_alloc | apply Kd.R_drewN | apply Kd.R_drew)); exact HO_26002.out⟩, ⟨by (with_reducible repeat (first | refine blk_drewN ?_ _ | refine blk_drew ?_ | refine blk_alloc ?_ _)); exact BK11.out⟩, ⟨by (with_reducible repeat (first | refine blk_drewN ?_ _ | refine blk_drew ?_ | refine blk_alloc ?_ _)); exact BK25.out⟩, ⟨by (with_reducible repeat (first | refine blk_drewN ?_ _ | refine blk_drew ?_ | refine blk_alloc ?_ _)); exact BK27.out⟩, ⟨by repeat (first | (with_reducible first | exact HB.out | apply below_alloc | apply pw_below_drewN | apply below_drew1 | refine below_set ?_ GE11.out | refine below_set ?_ GE25.out | refine below_set ?_ GE27.out) | exact HB.out)⟩⟩
              · rw [if_neg c41] at H
                have c41b0 : (t28 == t30) = false := beq_eq_false_iff_ne.mpr c41
                have c41b1 : (t28 != t30) = true := bne_iff_ne.mpr c41
                obtain rfl := Option.some.inj H
                have hnb46 := NB11_25.out
                have hnc46 := NB25_11.out
                have hnb47 := NB11_27.out
                have hnc47 := NB27_11.out
                have hcz48_0 : wr.cell? ⟨gb11, 0, none⟩ = some (.slice A0_0 l0_0.length c0_0) := (blk_cell BK11.out 0).trans rfl
                have hcz48_1 : wr.cell? ⟨gb11, 1, none⟩ = some (.slice A0_1 l0_1.length c0_1) := (blk_cell BK11.out 1).trans rfl
                have hcz48_2 : wr.cell? ⟨gb11, 2, none⟩ = some (.slice A0_2 l0_2.length c0_2) := (blk_cell BK11.out 2).trans rfl
                have hfz48_0 := blk_frozen BK11.out 0
                have hfz48_1 := blk_frozen BK11.out 1
                have hfz48_2 := blk_frozen BK11.out 2
                try go_wp2
                have n0_ := Aside0.mk (Kd.R_drew HO_26000.out)
                have n1_ := Aside0.mk (Kd.R_drew HO_26001.out)
                have n2_ := Aside0.mk (Kd.R_drew HO_26002.out)
                have n3_ := Aside0.mk (blk_drew BK11.out)
                have n4_ := Aside0.mk (blk_drew BK25.out)
                have n5_ := Aside0.mk (blk_drew BK27.out)
                have n6_ := Aside0.mk (below_drew1 HB.out)
                clear HO_26000
                clear HO_26001
                clear HO_26002
                clear BK11
                clear BK25
                clear BK27
                clear HB
                have HO_26000 := n0_
                have HO_26001 := n1_
                have HO_26002 := n2_
                have BK11 := n3_
                have BK25 := n4_
                have BK27 := n5_
                have HB := n6_
                clear n0_ n1_ n2_ n3_ n4_ n5_ n6_
                refine start_ (n := 10) (S := fun w' => w'.cell? ⟨gb11, 0, none⟩ = some (.slice A0_0 l0_0.length c0_0) ∧ w'.cell? ⟨gb11, 1, none⟩ = some (.slice A0_1 l0_1.length c0_1) ∧ w'.cell? ⟨gb11, 2, none⟩ = some (.slice A0_2 l0_2.length c0_2)) (ds := []) #[false, false, false, false, false, false, false, false, false, false] (by kernel_rfl) rfl rfl ⟨(blk_cell BK11.out 0).trans rfl, (blk_cell BK11.out 1).trans rfl, (blk_cell BK11.out 2).trans rfl⟩ (fun hHeld => ?_); refine with_tabW roadbooklaw16_MemoMust.tab11 roadbooklaw16_MemoMust.bits11 (fun HT_ HW_ => ?_)
                generalize wr.drew = w49 at HO_26000 HO_26001 HO_26002 BK11 BK25 BK27 HB hHeld ⊢
                refine pure_ (i := 0) (N := some 62) (v := ?_) (a' := ?_) #[true, false, false, false, false, false, false, false, false, false] rfl rfl (any_of HT_.out (by kernel_rfl)) (fun _ _ _ h => h) (Or.inl ⟨by rfl, ?_⟩) ?_ ?_
                rotate_left
                · intro w'
                  go_simp
                  with_reducible rfl
                rotate_left
                · simp only [Act.put, List.setIfInBounds_toArray, List.set_cons_zero, List.set_cons_succ, i64_w, i32_w]
                  rfl
                refine pure_ (i := 1) (N := some 63) (v := ?_) (a' := ?_) #[true, true, false, false, false, false, false, false, false, false] rfl rfl (any_of HT_.out (by kernel_rfl)) (fun _ _ _ h => h) (Or.inl ⟨by rfl, ?_⟩) ?_ ?_
                rotate_left
                · intro w'
                  go_simp
                  with_reducible rfl
                rotate_left
                · simp only [Act.put, List.setIfInBounds_toArray, List.set_cons_zero, List.set_cons_succ, i64_w, i32_w]
                  rfl
                refine pure_ (i := 3) (N := some 65) (v := ?_) (a' := ?_) #[true, true, false, true, false, false, false, false, false, false] rfl rfl (any_of HT_.out (by kernel_rfl)) (fun _ _ _ h => h) (Or.inl ⟨by rfl, ?_⟩) ?_ ?_
                rotate_left
                · intro w'
                  go_simp
                  with_reducible rfl
                rotate_left
                · simp only [Act.put, List.setIfInBounds_toArray, List.set_cons_zero, List.set_cons_succ, i64_w, i32_w]
                  rfl
                refine pure_ (i := 4) (N := some 66) (v := ?_) (a' := ?_) #[true, true, false, true, true, false, false, false, false, false] rfl rfl (any_of HT_.out (by kernel_rfl)) (fun _ _ _ h => h) (Or.inl ⟨by rfl, ?_⟩) ?_ ?_
                rotate_left
                · intro w'
                  go_simp
                  with_reducible rfl
                rotate_left
                · simp only [Act.put, List.setIfInBounds_toArray, List.set_cons_zero, List.set_cons_succ, i64_w, i32_w]
                  rfl
                refine pure_ (i := 6) (N := some 68) (v := ?_) (a' := ?_) #[true, true, false, true, true, false, true, false, false, false] rfl rfl (any_of HT_.out (by kernel_rfl)) (fun _ _ _ h => h) (Or.inl ⟨by rfl, ?_⟩) ?_ ?_
                rotate_left
                · intro w'
                  go_simp
                  with_reducible rfl
                rotate_left
                · simp only [Act.put, List.setIfInBounds_toArray, List.set_cons_zero, List.set_cons_succ, i64_w, i32_w]
                  rfl
                refine take_ (i := 5) (N := some 67) (v := ?_) (a' := ?_) #[true, true, false, true, true, true, true, false, false, false] rfl rfl (take_ofW HT_.out HW_.out (by kernel_rfl)) (fun _ _ _ h => h) (Or.inl ⟨by rfl, ?_⟩) hHeld ?_ ?_
                rotate_left
                · rintro w' ⟨s0, s1, s2⟩
                  go_simp
                  with_reducible rfl
                rotate_left
                · simp only [Act.put, List.setIfInBounds_toArray, List.set_cons_zero, List.set_cons_succ, i64_w, i32_w]
                  rfl
                refine one_ (i := 2) (N := some 64) #[true, true, true, true, true, true, true, false, false, false] rfl rfl (one_of HT_.out (by kernel_rfl)) (by decide) (fun K hK => ?_)
                refine goes_ Try.func26 (by kernel_rfl) rfl #[.slice A3 l3.length c3, .int .i64 x15_2] (by rfl) rfl rfl (by (try simp only [List.map_toArray, List.map_cons, List.map_nil]); first | done | rfl | (simp only [List.length_drop, List.length_take]; rfl)) ?_
                with_reducible refine (sets_Find.calls k2 _ _ l3 x15_2 t28 _ ?side1 ?side2 A38.out).mono ?_
                (case side1 => repeat (first | exact (Kd.C_below HR3.out HB.out) | (with_reducible refine Kd.C_alloc ?_ _) | (with_reducible refine Kd.C_drewN ?_ _) | (with_reducible refine Kd.C_drew ?_)))
                (case side2 => exact HC3.out)
                rintro e w' ⟨rfl, ⟨nd, rfl⟩⟩
                refine ⟨_, rfl, ?_⟩
                refine hK.out _ _ ⟨(blk_cell BK11.out 0).trans rfl, (blk_cell BK11.out 1).trans rfl, (blk_cell BK11.out 2).trans rfl⟩ (fun hHeld => ?_)
                clear hK K
                refine norm_ (a' := ?_) ?_ ?_
                rotate_left
                · show Act.put _ (some 64) _ = _
                  simp only [Act.put, List.setIfInBounds_toArray, List.set_cons_zero, List.set_cons_succ, i64_w, i32_w]
                  rfl
                refine one_ (i := 7) (N := some 69) #[true, true, true, true, true, true, true, true, false, false] rfl rfl (one_of HT_.out (by kernel_rfl)) (by decide) (fun K hK => ?_)
                refine goes_ Try.func26 (by kernel_rfl) rfl #[.slice A0_2 l0_2.length c0_2, .int .i64 x15_2] (by rfl) rfl rfl (by (try simp only [List.map_toArray, List.map_cons, List.map_nil]); first | done | rfl | (simp only [List.length_drop, List.length_take]; rfl)) ?_
                with_reducible refine (sets_Find.calls k2 _ _ l0_2 x15_2 t29 _ ?side1 ?side2 A39.out).mono ?_
                (case side1 => repeat (first | exact (Kd.C_below HR0_2.out (by repeat (first | (with_reducible first | exact HB.out | apply below_alloc | apply pw_below_drewN | apply below_drew1 | refine below_set ?_ GE11.out | refine below_set ?_ GE25.out | refine below_set ?_ GE27.out) | exact HB.out))) | (with_reducible refine Kd.C_alloc ?_ _) | (with_reducible refine Kd.C_drewN ?_ _) | (with_reducible refine Kd.C_drew ?_)))
                (case side2 => exact HC0_2.out)
                rintro e w' ⟨rfl, ⟨nd, rfl⟩⟩
                refine ⟨_, rfl, ?_⟩
                refine hK.out _ _ ⟨(blk_cell BK11.out 0).trans rfl, (blk_cell BK11.out 1).trans rfl, (blk_cell BK11.out 2).trans rfl⟩ (fun hHeld => ?_)
                clear hK K
                refine norm_ (a' := ?_) ?_ ?_
                rotate_left
                · show Act.put _ (some 69) _ = _
                  simp only [Act.put, List.setIfInBounds_toArray, List.set_cons_zero, List.set_cons_succ, i64_w, i32_w]
                  rfl
                refine one_ (i := 8) (N := some 70) #[true, true, true, true, true, true, true, true, true, false] rfl rfl (one_of HT_.out (by kernel_rfl)) (by decide) (fun K hK => ?_)
                refine goes_ Try.func26 (by kernel_rfl) rfl #[.slice A3 l3.length c3, .int .i64 t29] (by rfl) rfl rfl (by (try simp only [List.map_toArray, List.map_cons, List.map_nil]); first | done | rfl | (simp only [List.length_drop, List.length_take]; rfl)) ?_
                with_reducible refine (sets_Find.calls k2 _ _ l3 t29 t30 _ ?side1 ?side2 A40.out).mono ?_
                (case side1 => repeat (first | exact (Kd.C_below HR3.out (by repeat (first | (with_reducible first | exact HB.out | apply below_alloc | apply pw_below_drewN | apply below_drew1 | refine below_set ?_ GE11.out | refine below_set ?_ GE25.out | refine below_set ?_ GE27.out) | exact HB.out))) | (with_reducible refine Kd.C_alloc ?_ _) | (with_reducible refine Kd.C_drewN ?_ _) | (with_reducible refine Kd.C_drew ?_)))
                (case side2 => exact HC3.out)
                rintro e w' ⟨rfl, ⟨nd, rfl⟩⟩
                refine ⟨_, rfl, ?_⟩
                refine hK.out _ _ ⟨(blk_cell BK11.out 0).trans rfl, (blk_cell BK11.out 1).trans rfl, (blk_cell BK11.out 2).trans rfl⟩ (fun hHeld => ?_)
                clear hK K
                refine norm_ (a' := ?_) ?_ ?_
                rotate_left
                · show Act.put _ (some 70) _ = _
                  simp only [Act.put, List.setIfInBounds_toArray, List.set_cons_zero, List.set_cons_succ, i64_w, i32_w]
                  rfl
                refine pure_ (i := 9) (N := some 71) (v := ?_) (a' := ?_) #[true, true, true, true, true, true, true, true, true, true] rfl rfl (any_of HT_.out (by kernel_rfl)) (fun _ _ _ h => h) (Or.inl ⟨by rfl, ?_⟩) ?_ ?_
                rotate_left
                · intro w'
                  go_simp
                  with_reducible rfl
                rotate_left
                · simp only [Act.put, List.setIfInBounds_toArray, List.set_cons_zero, List.set_cons_succ, i64_w, i32_w]
                  rfl
                refine done_ (done_of HT_.out (by kernel_rfl)) ?_
                try go_wp2
                go_ret
                exact ⟨by first | rfl | (simp [errW_none, errW_some] <;> rfl) | (simp [*, errW_none, errW_some] <;> rfl), by repeat (first | (with_reducible first | exact HB.out | apply below_alloc | apply pw_below_drewN | apply below_drew1 | refine below_set ?_ GE11.out | refine below_set ?_ GE25.out | refine below_set ?_ GE27.out) | exact HB.out)⟩
            · rw [if_neg c37] at H
              have c37b0 : decide (x15_2 < (l0_2.length : Int)) = false := decide_eq_false c37
              clear c37
              have HC50 := Aside0.mk H
              clear H
              have hnb51 := NB11_25.out
              have hnc51 := NB25_11.out
              have hnb52 := NB11_27.out
              have hnc52 := NB27_11.out
              have hcz53_0 : wr.cell? ⟨gb11, 0, none⟩ = some (.slice A0_0 l0_0.length c0_0) := (blk_cell BK11.out 0).trans rfl
              have hcz53_1 : wr.cell? ⟨gb11, 1, none⟩ = some (.slice A0_1 l0_1.length c0_1) := (blk_cell BK11.out 1).trans rfl
              have hcz53_2 : wr.cell? ⟨gb11, 2, none⟩ = some (.slice A0_2 l0_2.length c0_2) := (blk_cell BK11.out 2).trans rfl
              have hfz53_0 := blk_frozen BK11.out 0
              have hfz53_1 := blk_frozen BK11.out 1
              have hfz53_2 := blk_frozen BK11.out 2
              go_upto_region 13 with (fail)
              go_cut [83] (fun v83 wc => ∃ (kq : Nat) (x83_49 : Bool), v83 = .bool x83_49 ∧ Aside0 (roadbooklaw16_MemoMust.j2 kq l3 x83_49 l0_0 l0_1 l0_2 t14 t17 t20 = some r) ∧ Aside0 (kq ≤ k2) ∧ Aside0 (Kd.R k48 48 wc w.heap.size (fun _ => True) (.slice Ao16 t14.length co16) t14) ∧ Aside0 (Kd.R (Kd.int .i64) 3 wc w.heap.size (fun k_ => some k_ ≠ ((.slice Ao20 t20.length co20) : Value).ownBlock) (.slice Ao19 t17.length co19) t17) ∧ Aside0 (Kd.R (Kd.int .i64) 3 wc w.heap.size (fun k_ => some k_ ≠ ((.slice Ao19 t17.length co19) : Value).ownBlock) (.slice Ao20 t20.length co20) t20) ∧ Aside0 (wc.heap[gb11]? = some (.cells #[(.slice A0_0 l0_0.length c0_0), (.slice A0_1 l0_1.length c0_1), (.slice A0_2 l0_2.length c0_2)] 38 (0, 0))) ∧ Aside0 (wc.heap[gb25]? = some (.cells #[(.slice Ao16 t14.length co16), (.slice Ao19 t17.length co19), (.slice Ao20 t20.length co20)] 38 (0, 0))) ∧ Aside0 (wc.heap[gb27]? = some (.cells #[(.slice A0_0 l0_0.length c0_0), (.slice A0_1 l0_1.length c0_1), (.slice A3 l3.length c3)] 38 (0, 0))) ∧ Aside0 (Below w.heap.size w wc))
              case first =>
                have H := HC50.out
                clear HC50
                replace H := Option.bind_eq_some_iff.mp H
                obtain ⟨t31, A540, H⟩ := H
                replace H : (if t31 = true then ((sets_Find.f k2 l3 a1).bind fun t32 => ((sets_Find.f k2 l3 a2).bind fun t33 => (roadbooklaw16_MemoMust.j2 k2 l3 (t32 != t33) l0_0 l0_1 l0_2 t14 t17 t20))) else (roadbooklaw16_MemoMust.j2 k2 l3 true l0_0 l0_1 l0_2 t14 t17 t20)) = some r := H
                have A54 := Aside0.mk A540
                clear A540
                by_cases c55 : t31 = true
                · subst c55
                  have H1 : ((sets_Find.f k2 l3 a1).bind fun t32 => ((sets_Find.f k2 l3 a2).bind fun t33 => (roadbooklaw16_MemoMust.j2 k2 l3 (t32 != t33) l0_0 l0_1 l0_2 t14 t17 t20))) = some r := by rw [if_pos rfl] at H; exact H
                  clear H
                  have H := H1
                  clear H1
                  replace H := Option.bind_eq_some_iff.mp H
                  obtain ⟨t32, A560, H⟩ := H
                  replace H : ((sets_Find.f k2 l3 a2).bind fun t33 => (roadbooklaw16_MemoMust.j2 k2 l3 (t32 != t33) l0_0 l0_1 l0_2 t14 t17 t20)) = some r := H
                  have A56 := Aside0.mk A560
                  clear A560
                  replace H := Option.bind_eq_some_iff.mp H
                  obtain ⟨t33, A570, H⟩ := H
                  replace H : (roadbooklaw16_MemoMust.j2 k2 l3 (t32 != t33) l0_0 l0_1 l0_2 t14 t17 t20) = some r := H
                  have A57 := Aside0.mk A570
                  clear A570
                  have H' := Aside0.mk H
                  clear H
                  have hnb58 := NB27_11.out
                  have hnc58 := NB11_27.out
                  have hnb59 := NB27_25.out
                  have hnc59 := NB25_27.out
                  have hcz60_0 : wr.cell? ⟨gb27, 0, none⟩ = some (.slice A0_0 l0_0.length c0_0) := (blk_cell BK27.out 0).trans rfl
                  have hcz60_1 : wr.cell? ⟨gb27, 1, none⟩ = some (.slice A0_1 l0_1.length c0_1) := (blk_cell BK27.out 1).trans rfl
                  have hcz60_2 : wr.cell? ⟨gb27, 2, none⟩ = some (.slice A3 l3.length c3) := (blk_cell BK27.out 2).trans rfl
                  have hfz60_0 := blk_frozen BK27.out 0
                  have hfz60_1 := blk_frozen BK27.out 1
                  have hfz60_2 := blk_frozen BK27.out 2
                  go_wp2_with (first | ((with_reducible refine gate_callee (f := 41) rfl ?_); refine goesL_ (some 73) rfl rfl Try.func41 (by kernel_rfl) rfl #[.agg #[.slice A0_0 l0_0.length c0_0, .slice A0_1 l0_1.length c0_1, .slice A3 l3.length c3]] rfl (by (try simp only [List.map_toArray, List.map_cons, List.map_nil]); first | done | rfl | (simp only [List.length_drop, List.length_take]; rfl)) ?_; (with_reducible refine (memo_May.calls _ _ l0_0 _ _ l0_1 _ _ l3 true _ ?side1 ?side2 ?side3 ?side4 ?side5 ?side6 A54.out).mono ?_); (case side1 => repeat (first | exact (Kd.C_below HR0_0.out HB.out) | (with_reducible refine Kd.C_alloc ?_ _) | (with_reducible refine Kd.C_drewN ?_ _) | (with_reducible refine Kd.C_drew ?_))); (case side2 => exact HC0_0.out); (case side3 => repeat (first | exact (Kd.C_below HR0_1.out HB.out) | (with_reducible refine Kd.C_alloc ?_ _) | (with_reducible refine Kd.C_drewN ?_ _) | (with_reducible refine Kd.C_drew ?_))); (case side4 => exact HC0_1.out); (case side5 => repeat (first | exact (Kd.C_below HR3.out HB.out) | (with_reducible refine Kd.C_alloc ?_ _) | (with_reducible refine Kd.C_drewN ?_ _) | (with_reducible refine Kd.C_drew ?_))); (case side6 => exact HC3.out); rintro e w61 ⟨rfl, hb⟩; refine ⟨_, rfl, ?_⟩; have n0_ := Aside0.mk (Kd.R_below (by (with_reducible repeat (first | apply Kd.R_alloc | apply Kd.R_drewN | apply Kd.R_drew)); exact HO_26000.out) hb); have n1_ := Aside0.mk (Kd.R_below (by (with_reducible repeat (first | apply Kd.R_alloc | apply Kd.R_drewN | apply Kd.R_drew)); exact HO_26001.out) hb); have n2_ := Aside0.mk (Kd.R_below (by (with_reducible repeat (first | apply Kd.R_alloc | apply Kd.R_drewN | apply Kd.R_drew)); exact HO_26002.out) hb); have n3_ := Aside0.mk (blk_below (g := gb11) (o := .cells #[.slice A0_0 l0_0.length c0_0, .slice A0_1 l0_1.length c0_1, .slice A0_2 l0_2.length c0_2] 38 (0, 0)) (by (with_reducible repeat (first | refine blk_drewN ?_ _ | refine blk_drew ?_ | refine blk_alloc ?_ _)); exact BK11.out) hb); have n4_ := Aside0.mk (blk_below (g := gb25) (o := .cells #[.slice Ao16 t14.length co16, .slice Ao19 t17.length co19, .slice Ao20 t20.length co20] 38 (0, 0)) (by (with_reducible repeat (first | refine blk_drewN ?_ _ | refine blk_drew ?_ | refine blk_alloc ?_ _)); exact BK25.out) hb); have n5_ := Aside0.mk (blk_below (g := gb27) (o := .cells #[.slice A0_0 l0_0.length c0_0, .slice A0_1 l0_1.length c0_1, .slice A3 l3.length c3] 38 (0, 0)) (by (with_reducible repeat (first | refine blk_drewN ?_ _ | refine blk_drew ?_ | refine blk_alloc ?_ _)); exact BK27.out) hb); have n6_ := Aside0.mk (below_step (by repeat (first | (with_reducible first | exact HB.out | apply below_alloc | apply pw_below_drewN | apply below_drew1 | refine below_set ?_ GE11.out | refine below_set ?_ GE25.out | refine below_set ?_ GE27.out) | exact HB.out)) hb); clear HO_26000; clear HO_26001; clear HO_26002; clear BK11; clear BK25; clear BK27; clear HB; have HO_26000 := n0_; have HO_26001 := n1_; have HO_26002 := n2_; have BK11 := n3_; have BK25 := n4_; have BK27 := n5_; have HB := n6_; clear n0_ n1_ n2_ n3_ n4_ n5_ n6_; (try clear hb); (try clear hb2); (try clear hk); (try clear hi)) | (go_at_call 26; (with_reducible refine (sets_Find.calls k2 _ _ l3 a1 t32 _ ?side1 ?side2 A56.out).mono ?_); (case side1 => repeat (first | exact (Kd.C_below HR3.out HB.out) | (with_reducible refine Kd.C_alloc ?_ _) | (with_reducible refine Kd.C_drewN ?_ _) | (with_reducible refine Kd.C_drew ?_))); (case side2 => exact HC3.out); rintro e w' ⟨rfl, ⟨nd, rfl⟩⟩) | (go_at_call 26; (with_reducible refine (sets_Find.calls k2 _ _ l3 a2 t33 _ ?side1 ?side2 A57.out).mono ?_); (case side1 => repeat (first | exact (Kd.C_below HR3.out (by repeat (first | (with_reducible first | exact HB.out | apply below_alloc | apply pw_below_drewN | apply below_drew1 | refine below_set ?_ GE11.out | refine below_set ?_ GE25.out | refine below_set ?_ GE27.out) | exact HB.out))) | (with_reducible refine Kd.C_alloc ?_ _) | (with_reducible refine Kd.C_drewN ?_ _) | (with_reducible refine Kd.C_drew ?_))); (case side2 => exact HC3.out); rintro e w' ⟨rfl, ⟨nd, rfl⟩⟩))
                  go_meet
                  case rel => exact ⟨_, ((t32 != t33)), (by first | rfl | (simp; done) | (simp [*]; done)), H', ⟨by have := HJ7.out; have := HK2.out; first | omega | exact Nat.le_refl _⟩, ⟨by (with_reducible repeat (first | apply Kd.R_alloc | apply Kd.R_drewN | apply Kd.R_drew)); exact HO_26000.out⟩, ⟨by (with_reducible repeat (first | apply Kd.R_alloc | apply Kd.R_drewN | apply Kd.R_drew)); exact HO_26001.out⟩, ⟨by (with_reducible repeat (first | apply Kd.R_alloc | apply Kd.R_drewN | apply Kd.R_drew)); exact HO_26002.out⟩, ⟨by (with_reducible repeat (first | refine blk_drewN ?_ _ | refine blk_drew ?_ | refine blk_alloc ?_ _)); exact BK11.out⟩, ⟨by (with_reducible repeat (first | refine blk_drewN ?_ _ | refine blk_drew ?_ | refine blk_alloc ?_ _)); exact BK25.out⟩, ⟨by (with_reducible repeat (first | refine blk_drewN ?_ _ | refine blk_drew ?_ | refine blk_alloc ?_ _)); exact BK27.out⟩, ⟨by repeat (first | (with_reducible first | exact HB.out | apply below_alloc | apply pw_below_drewN | apply below_drew1 | refine below_set ?_ GE11.out | refine below_set ?_ GE25.out | refine below_set ?_ GE27.out) | exact HB.out)⟩⟩
                · replace c55 := Bool.eq_false_iff.mpr c55
                  subst c55
                  have H1 : (roadbooklaw16_MemoMust.j2 k2 l3 true l0_0 l0_1 l0_2 t14 t17 t20) = some r := by rw [if_neg (show ¬ (false = true) by decide)] at H; exact H
                  clear H
                  have H := H1
                  clear H1
                  have H' := Aside0.mk H
                  clear H
                  have hnb62 := NB27_11.out
                  have hnc62 := NB11_27.out
                  have hnb63 := NB27_25.out
                  have hnc63 := NB25_27.out
                  have hcz64_0 : wr.cell? ⟨gb27, 0, none⟩ = some (.slice A0_0 l0_0.length c0_0) := (blk_cell BK27.out 0).trans rfl
                  have hcz64_1 : wr.cell? ⟨gb27, 1, none⟩ = some (.slice A0_1 l0_1.length c0_1) := (blk_cell BK27.out 1).trans rfl
                  have hcz64_2 : wr.cell? ⟨gb27, 2, none⟩ = some (.slice A3 l3.length c3) := (blk_cell BK27.out 2).trans rfl
                  have hfz64_0 := blk_frozen BK27.out 0
                  have hfz64_1 := blk_frozen BK27.out 1
                  have hfz64_2 := blk_frozen BK27.out 2
                  go_wp2_with (first | ((with_reducible refine gate_callee (f := 41) rfl ?_); refine goesL_ (some 73) rfl rfl Try.func41 (by kernel_rfl) rfl #[.agg #[.slice A0_0 l0_0.length c0_0, .slice A0_1 l0_1.length c0_1, .slice A3 l3.length c3]] rfl (by (try simp only [List.map_toArray, List.map_cons, List.map_nil]); first | done | rfl | (simp only [List.length_drop, List.length_take]; rfl)) ?_; (with_reducible refine (memo_May.calls _ _ l0_0 _ _ l0_1 _ _ l3 false _ ?side1 ?side2 ?side3 ?side4 ?side5 ?side6 A54.out).mono ?_); (case side1 => repeat (first | exact (Kd.C_below HR0_0.out HB.out) | (with_reducible refine Kd.C_alloc ?_ _) | (with_reducible refine Kd.C_drewN ?_ _) | (with_reducible refine Kd.C_drew ?_))); (case side2 => exact HC0_0.out); (case side3 => repeat (first | exact (Kd.C_below HR0_1.out HB.out) | (with_reducible refine Kd.C_alloc ?_ _) | (with_reducible refine Kd.C_drewN ?_ _) | (with_reducible refine Kd.C_drew ?_))); (case side4 => exact HC0_1.out); (case side5 => repeat (first | exact (Kd.C_below HR3.out HB.out) | (with_reducible refine Kd.C_alloc ?_ _) | (with_reducible refine Kd.C_drewN ?_ _) | (with_reducible refine Kd.C_drew ?_))); (case side6 => exact HC3.out); rintro e w65 ⟨rfl, hb⟩; refine ⟨_, rfl, ?_⟩; have n0_ := Aside0.mk (Kd.R_below (by (with_reducible repeat (first | apply Kd.R_alloc | apply Kd.R_drewN | apply Kd.R_drew)); exact HO_26000.out) hb); have n1_ := Aside0.mk (Kd.R_below (by (with_reducible repeat (first | apply Kd.R_alloc | apply Kd.R_drewN | apply Kd.R_drew)); exact HO_26001.out) hb); have n2_ := Aside0.mk (Kd.R_below (by (with_reducible repeat (first | apply Kd.R_alloc | apply Kd.R_drewN | apply Kd.R_drew)); exact HO_26002.out) hb); have n3_ := Aside0.mk (blk_below (g := gb11) (o := .cells #[.slice A0_0 l0_0.length c0_0, .slice A0_1 l0_1.length c0_1, .slice A0_2 l0_2.length c0_2] 38 (0, 0)) (by (with_reducible repeat (first | refine blk_drewN ?_ _ | refine blk_drew ?_ | refine blk_alloc ?_ _)); exact BK11.out) hb); have n4_ := Aside0.mk (blk_below (g := gb25) (o := .cells #[.slice Ao16 t14.length co16, .slice Ao19 t17.length co19, .slice Ao20 t20.length co20] 38 (0, 0)) (by (with_reducible repeat (first | refine blk_drewN ?_ _ | refine blk_drew ?_ | refine blk_alloc ?_ _)); exact BK25.out) hb); have n5_ := Aside0.mk (blk_below (g := gb27) (o := .cells #[.slice A0_0 l0_0.length c0_0, .slice A0_1 l0_1.length c0_1, .slice A3 l3.length c3] 38 (0, 0)) (by (with_reducible repeat (first | refine blk_drewN ?_ _ | refine blk_drew ?_ | refine blk_alloc ?_ _)); exact BK27.out) hb); have n6_ := Aside0.mk (below_step (by repeat (first | (with_reducible first | exact HB.out | apply below_alloc | apply pw_below_drewN | apply below_drew1 | refine below_set ?_ GE11.out | refine below_set ?_ GE25.out | refine below_set ?_ GE27.out) | exact HB.out)) hb); clear HO_26000; clear HO_26001; clear HO_26002; clear BK11; clear BK25; clear BK27; clear HB; have HO_26000 := n0_; have HO_26001 := n1_; have HO_26002 := n2_; have BK11 := n3_; have BK25 := n4_; have BK27 := n5_; have HB := n6_; clear n0_ n1_ n2_ n3_ n4_ n5_ n6_; (try clear hb); (try clear hb2); (try clear hk); (try clear hi)))
                  go_meet
                  case rel => exact ⟨_, (true), (by first | rfl | (simp; done) | (simp [*]; done)), H', ⟨by have := HJ7.out; have := HK2.out; first | omega | exact Nat.le_refl _⟩, ⟨by (with_reducible repeat (first | apply Kd.R_alloc | apply Kd.R_drewN | apply Kd.R_drew)); exact HO_26000.out⟩, ⟨by (with_reducible repeat (first | apply Kd.R_alloc | apply Kd.R_drewN | apply Kd.R_drew)); exact HO_26001.out⟩, ⟨by (with_reducible repeat (first | apply Kd.R_alloc | apply Kd.R_drewN | apply Kd.R_drew)); exact HO_26002.out⟩, ⟨by (with_reducible repeat (first | refine blk_drewN ?_ _ | refine blk_drew ?_ | refine blk_alloc ?_ _)); exact BK11.out⟩, ⟨by (with_reducible repeat (first | refine blk_drewN ?_ _ | refine blk_drew ?_ | refine blk_alloc ?_ _)); exact BK25.out⟩, ⟨by (with_reducible repeat (first | refine blk_drewN ?_ _ | refine blk_drew ?_ | refine blk_alloc ?_ _)); exact BK27.out⟩, ⟨by repeat (first | (with_reducible first | exact HB.out | apply below_alloc | apply pw_below_drewN | apply below_drew1 | refine below_set ?_ GE11.out | refine below_set ?_ GE25.out | refine below_set ?_ GE27.out) | exact HB.out)⟩⟩
              case rest =>
                clear HC50
                try clear c1
                try clear c2
                try clear p2
                try clear c3
                try clear c4
                try clear c5
                try clear c6
                try clear p6
                try clear c9
                try clear c17
                try clear c21
                try clear c22
                try clear c23
                try clear c23b0
                try clear c23b1
                try clear c24
                try clear c24b0
                try clear c24b1
                try clear c24b2
                try clear c26
                try clear c28
                try clear c30
                try clear c31
                try clear c34
                try clear c35
                try clear c37
                try clear c37b0
                try clear c41
                try clear c41b0
                try clear c41b1
                try clear c42
                try clear c43
                try clear c46
                try clear c47
                try clear c51
                try clear c52
                try clear c55
                try clear c58
                try clear c59
                try clear c62
                try clear c63
                try clear p64
                try clear hcz11_0
                try clear hcz11_1
                try clear hcz11_2
                try clear hcz13_0
                try clear hcz13_1
                try clear hcz13_2
                try clear hcz18_0
                try clear hcz18_1
                try clear hcz18_2
                try clear hcz27_0
                try clear hcz27_1
                try clear hcz27_2
                try clear hcz29_0
                try clear hcz29_1
                try clear hcz29_2
                try clear hcz32_0
                try clear hcz32_1
                try clear hcz32_2
                try clear hcz36_0
                try clear hcz36_1
                try clear hcz36_2
                try clear hcz44_0
                try clear hcz44_1
                try clear hcz44_2
                try clear hcz48_0
                try clear hcz48_1
                try clear hcz48_2
                try clear hcz53_0
                try clear hcz53_1
                try clear hcz53_2
                try clear hcz60_0
                try clear hcz60_1
                try clear hcz60_2
                try clear hcz64_0
                try clear hcz64_1
                try clear hcz64_2
                try clear hfz11_0
                try clear hfz11_1
                try clear hfz11_2
                try clear hfz13_0
                try clear hfz13_1
                try clear hfz13_2
                try clear hfz18_0
                try clear hfz18_1
                try clear hfz18_2
                try clear hfz27_0
                try clear hfz27_1
                try clear hfz27_2
                try clear hfz29_0
                try clear hfz29_1
                try clear hfz29_2
                try clear hfz32_0
                try clear hfz32_1
                try clear hfz32_2
                try clear hfz36_0
                try clear hfz36_1
                try clear hfz36_2
                try clear hfz44_0
                try clear hfz44_1
                try clear hfz44_2
                try clear hfz48_0
                try clear hfz48_1
                try clear hfz48_2
                try clear hfz53_0
                try clear hfz53_1
                try clear hfz53_2
                try clear hfz60_0
                try clear hfz60_1
                try clear hfz60_2
                try clear hfz64_0
                try clear hfz64_1
                try clear hfz64_2
                try clear p2
                obtain ⟨kq, x83_49, rfl, HA, HJ49, HO_26000, HO_26001, HO_26002, BK11, BK25, BK27, HB⟩ := hcut
                cases kq with
                | zero => exact absurd HA.out (by simp [roadbooklaw16_MemoMust.j2])
                | succ kj49 =>
                  have H := HA.out
                  clear HA
                  simp only [roadbooklaw16_MemoMust.j2] at H
                  by_cases c66 : x83_49 = true
                  · subst c66
                    have H1 : (some true) = some r := by rw [if_pos rfl] at H; exact H
                    clear H
                    have H := H1
                    clear H1
                    obtain rfl := Option.some.inj H
                    go_wp2
                    go_ret
                    exact ⟨by first | rfl | (simp [errW_none, errW_some] <;> rfl) | (simp [*, errW_none, errW_some] <;> rfl), by repeat (first | (with_reducible first | exact HB.out | apply below_alloc | apply pw_below_drewN | apply below_drew1 | refine below_set ?_ GE11.out | refine below_set ?_ GE25.out | refine below_set ?_ GE27.out) | exact HB.out)⟩
                  · replace c66 := Bool.eq_false_iff.mpr c66
                    subst c66
                    have H1 : (roadbooklaw16_MemoMust.l1 kj49 l3 0 l0_0 l0_1 l0_2 t14 t17 t20) = some r := by rw [if_neg (show ¬ (false = true) by decide)] at H; exact H
                    clear H
                    have H := H1
                    clear H1
                    have H' := Aside0.mk H
                    clear H
                    go_wp2
                    go_loopg [16] kj49 (fun kq v16 w' => ∃ (x16_4 : Int), v16 = .int .i64 x16_4 ∧ Aside0 (roadbooklaw16_MemoMust.l1 kq l3 x16_4 l0_0 l0_1 l0_2 t14 t17 t20 = some r) ∧ Aside0 (kq ≤ kj49) ∧ Aside0 (Kd.R k48 48 w' w.heap.size (fun _ => True) (.slice Ao16 t14.length co16) t14) ∧ Aside0 (Kd.R (Kd.int .i64) 3 w' w.heap.size (fun k_ => some k_ ≠ ((.slice Ao20 t20.length co20) : Value).ownBlock) (.slice Ao19 t17.length co19) t17) ∧ Aside0 (Kd.R (Kd.int .i64) 3 w' w.heap.size (fun k_ => some k_ ≠ ((.slice Ao19 t17.length co19) : Value).ownBlock) (.slice Ao20 t20.length co20) t20) ∧ Aside0 (w'.heap[gb11]? = some (.cells #[(.slice A0_0 l0_0.length c0_0), (.slice A0_1 l0_1.length c0_1), (.slice A0_2 l0_2.length c0_2)] 38 (0, 0))) ∧ Aside0 (w'.heap[gb25]? = some (.cells #[(.slice Ao16 t14.length co16), (.slice Ao19 t17.length co19), (.slice Ao20 t20.length co20)] 38 (0, 0))) ∧ Aside0 (w'.heap[gb27]? = some (.cells #[(.slice A0_0 l0_0.length c0_0), (.slice A0_1 l0_1.length c0_1), (.slice A3 l3.length c3)] 38 (0, 0))) ∧ Aside0 (Below w.heap.size w w'))
                    case atStart => exact ⟨(0), (by first | rfl | (simp; done) | (simp [*]; done)), H', ⟨Nat.le_refl _⟩, ⟨by (with_reducible repeat (first | apply Kd.R_alloc | apply Kd.R_drewN | apply Kd.R_drew)); exact HO_26000.out⟩, ⟨by (with_reducible repeat (first | apply Kd.R_alloc | apply Kd.R_drewN | apply Kd.R_drew)); exact HO_26001.out⟩, ⟨by (with_reducible repeat (first | apply Kd.R_alloc | apply Kd.R_drewN | apply Kd.R_drew)); exact HO_26002.out⟩, ⟨by (with_reducible repeat (first | refine blk_drewN ?_ _ | refine blk_drew ?_ | refine blk_alloc ?_ _)); exact BK11.out⟩, ⟨by (with_reducible repeat (first | refine blk_drewN ?_ _ | refine blk_drew ?_ | refine blk_alloc ?_ _)); exact BK25.out⟩, ⟨by (with_reducible repeat (first | refine blk_drewN ?_ _ | refine blk_drew ?_ | refine blk_alloc ?_ _)); exact BK27.out⟩, ⟨by repeat (first | (with_reducible first | exact HB.out | apply below_alloc | apply pw_below_drewN | apply below_drew1 | refine below_set ?_ GE11.out | refine below_set ?_ GE25.out | refine below_set ?_ GE27.out) | exact HB.out)⟩⟩
                    case round =>
                      clear H'
                      try clear c1
                      try clear c2
                      try clear p2
                      try clear c3
                      try clear c4
                      try clear c5
                      try clear c6
                      try clear p6
                      try clear c9
                      try clear c17
                      try clear c21
                      try clear c22
                      try clear c23
                      try clear c23b0
                      try clear c23b1
                      try clear c24
                      try clear c24b0
                      try clear c24b1
                      try clear c24b2
                      try clear c26
                      try clear c28
                      try clear c30
                      try clear c31
                      try clear c34
                      try clear c35
                      try clear c37
                      try clear c37b0
                      try clear c41
                      try clear c41b0
                      try clear c41b1
                      try clear c42
                      try clear c43
                      try clear c46
                      try clear c47
                      try clear c51
                      try clear c52
                      try clear c55
                      try clear c58
                      try clear c59
                      try clear c62
                      try clear c63
                      try clear p64
                      try clear c66
                      try clear hcz11_0
                      try clear hcz11_1
                      try clear hcz11_2
                      try clear hcz13_0
                      try clear hcz13_1
                      try clear hcz13_2
                      try clear hcz18_0
                      try clear hcz18_1
                      try clear hcz18_2
                      try clear hcz27_0
                      try clear hcz27_1
                      try clear hcz27_2
                      try clear hcz29_0
                      try clear hcz29_1
                      try clear hcz29_2
                      try clear hcz32_0
                      try clear hcz32_1
                      try clear hcz32_2
                      try clear hcz36_0
                      try clear hcz36_1
                      try clear hcz36_2
                      try clear hcz44_0
                      try clear hcz44_1
                      try clear hcz44_2
                      try clear hcz48_0
                      try clear hcz48_1
                      try clear hcz48_2
                      try clear hcz53_0
                      try clear hcz53_1
                      try clear hcz53_2
                      try clear hcz60_0
                      try clear hcz60_1
                      try clear hcz60_2
                      try clear hcz64_0
                      try clear hcz64_1
                      try clear hcz64_2
                      try clear hfz11_0
                      try clear hfz11_1
                      try clear hfz11_2
                      try clear hfz13_0
                      try clear hfz13_1
                      try clear hfz13_2
                      try clear hfz18_0
                      try clear hfz18_1
                      try clear hfz18_2
                      try clear hfz27_0
                      try clear hfz27_1
                      try clear hfz27_2
                      try clear hfz29_0
                      try clear hfz29_1
                      try clear hfz29_2
                      try clear hfz32_0
                      try clear hfz32_1
                      try clear hfz32_2
                      try clear hfz36_0
                      try clear hfz36_1
                      try clear hfz36_2
                      try clear hfz44_0
                      try clear hfz44_1
                      try clear hfz44_2
                      try clear hfz48_0
                      try clear hfz48_1
                      try clear hfz48_2
                      try clear hfz53_0
                      try clear hfz53_1
                      try clear hfz53_2
                      try clear hfz60_0
                      try clear hfz60_1
                      try clear hfz60_2
                      try clear hfz64_0
                      try clear hfz64_1
                      try clear hfz64_2
                      try clear p2
                      try clear p6
                      try clear p64
                      obtain ⟨x16_4, rfl, HA, HK4, HO_26000, HO_26001, HO_26002, BK11, BK25, BK27, HB⟩ := hrel
                      cases gk with
                      | zero => exact absurd HA.out (by simp [roadbooklaw16_MemoMust.l1])
                      | succ k4 =>
                        have H := HA.out
                        clear HA
                        simp only [roadbooklaw16_MemoMust.l1] at H
                        by_cases c67 : x16_4 < (l0_2.length : Int)
                        · rw [if_pos c67] at H
                          have c67b0 : decide (x16_4 < (l0_2.length : Int)) = true := decide_eq_true c67
                          clear c67
                          replace H := Option.bind_eq_some_iff.mp H
                          obtain ⟨t34, A680, H⟩ := H
                          replace H : ((memo_Find.f k4 t14 t17 t20 x16_4).bind fun t35 => ((sets_Find.f k4 l3 t35).bind fun t36 => (if t34 = t36 then (roadbooklaw16_MemoMust.l1 k4 l3 (wrap64 (x16_4 + 1)) l0_0 l0_1 l0_2 t14 t17 t20) else (some false)))) = some r := H
                          have A68 := Aside0.mk A680
                          clear A680
                          replace H := Option.bind_eq_some_iff.mp H
                          obtain ⟨t35, A690, H⟩ := H
                          replace H : ((sets_Find.f k4 l3 t35).bind fun t36 => (if t34 = t36 then (roadbooklaw16_MemoMust.l1 k4 l3 (wrap64 (x16_4 + 1)) l0_0 l0_1 l0_2 t14 t17 t20) else (some false))) = some r := H
                          have A69 := Aside0.mk A690
                          clear A690
                          replace H := Option.bind_eq_some_iff.mp H
                          obtain ⟨t36, A700, H⟩ := H
                          replace H : (if t34 = t36 then (roadbooklaw16_MemoMust.l1 k4 l3 (wrap64 (x16_4 + 1)) l0_0 l0_1 l0_2 t14 t17 t20) else (some false)) = some r := H
                          have A70 := Aside0.mk A700
                          clear A700
                          by_cases c71 : t34 = t36
                          · rw [if_pos c71] at H
                            have c71b0 : (t34 == t36) = true := beq_iff_eq.mpr c71
                            have c71b1 : (t34 != t36) = false := bne_eq_false_iff_eq.mpr c71
                            clear c71
                            have H' := Aside0.mk H
                            clear H
                            have hnb72 := NB11_25.out
                            have hnc72 := NB25_11.out
                            have hnb73 := NB11_27.out
                            have hnc73 := NB27_11.out
                            have hcz74_0 : wr.cell? ⟨gb11, 0, none⟩ = some (.slice A0_0 l0_0.length c0_0) := (blk_cell BK11.out 0).trans rfl
                            have hcz74_1 : wr.cell? ⟨gb11, 1, none⟩ = some (.slice A0_1 l0_1.length c0_1) := (blk_cell BK11.out 1).trans rfl
                            have hcz74_2 : wr.cell? ⟨gb11, 2, none⟩ = some (.slice A0_2 l0_2.length c0_2) := (blk_cell BK11.out 2).trans rfl
                            have hfz74_0 := blk_frozen BK11.out 0
                            have hfz74_1 := blk_frozen BK11.out 1
                            have hfz74_2 := blk_frozen BK11.out 2
                            try go_wp2
                            have n0_ := Aside0.mk (Kd.R_drew HO_26000.out)
                            have n1_ := Aside0.mk (Kd.R_drew HO_26001.out)
                            have n2_ := Aside0.mk (Kd.R_drew HO_26002.out)
                            have n3_ := Aside0.mk (blk_drew BK11.out)
                            have n4_ := Aside0.mk (blk_drew BK25.out)
                            have n5_ := Aside0.mk (blk_drew BK27.out)
                            have n6_ := Aside0.mk (below_drew1 HB.out)
                            clear HO_26000
                            clear HO_26001
                            clear HO_26002
                            clear BK11
                            clear BK25
                            clear BK27
                            clear HB
                            have HO_26000 := n0_
                            have HO_26001 := n1_
                            have HO_26002 := n2_
                            have BK11 := n3_
                            have BK25 := n4_
                            have BK27 := n5_
                            have HB := n6_
                            clear n0_ n1_ n2_ n3_ n4_ n5_ n6_
                            refine start_ (n := 9) (S := fun w' => w'.cell? ⟨gb25, 0, none⟩ = some (.slice Ao16 t14.length co16) ∧ w'.cell? ⟨gb25, 1, none⟩ = some (.slice Ao19 t17.length co19) ∧ w'.cell? ⟨gb25, 2, none⟩ = some (.slice Ao20 t20.length co20)) (ds := []) #[false, false, false, false, false, false, false, false, false] (by kernel_rfl) rfl rfl ⟨(blk_cell BK25.out 0).trans rfl, (blk_cell BK25.out 1).trans rfl, (blk_cell BK25.out 2).trans rfl⟩ (fun hHeld => ?_); refine with_tabW roadbooklaw16_MemoMust.tab18 roadbooklaw16_MemoMust.bits18 (fun HT_ HW_ => ?_)
                            generalize wr.drew = w75 at HO_26000 HO_26001 HO_26002 BK11 BK25 BK27 HB hHeld ⊢
                            refine pure_ (i := 0) (N := some 91) (v := ?_) (a' := ?_) #[true, false, false, false, false, false, false, false, false] rfl rfl (any_of HT_.out (by kernel_rfl)) (fun _ _ _ h => h) (Or.inl ⟨by rfl, ?_⟩) ?_ ?_
                            rotate_left
                            · intro w'
                              go_simp
                              with_reducible rfl
                            rotate_left
                            · simp only [Act.put, List.setIfInBounds_toArray, List.set_cons_zero, List.set_cons_succ, i64_w, i32_w]
                              rfl
                            refine pure_ (i := 1) (N := some 92) (v := ?_) (a' := ?_) #[true, true, false, false, false, false, false, false, false] rfl rfl (any_of HT_.out (by kernel_rfl)) (fun _ _ _ h => h) (Or.inl ⟨by rfl, ?_⟩) ?_ ?_
                            rotate_left
                            · intro w'
                              go_simp
                              with_reducible rfl
                            rotate_left
                            · simp only [Act.put, List.setIfInBounds_toArray, List.set_cons_zero, List.set_cons_succ, i64_w, i32_w]
                              rfl
                            refine pure_ (i := 3) (N := some 94) (v := ?_) (a' := ?_) #[true, true, false, true, false, false, false, false, false] rfl rfl (any_of HT_.out (by kernel_rfl)) (fun _ _ _ h => h) (Or.inl ⟨by rfl, ?_⟩) ?_ ?_
                            rotate_left
                            · intro w'
                              go_simp
                              with_reducible rfl
                            rotate_left
                            · simp only [Act.put, List.setIfInBounds_toArray, List.set_cons_zero, List.set_cons_succ, i64_w, i32_w]
                              rfl
                            refine pure_ (i := 5) (N := some 96) (v := ?_) (a' := ?_) #[true, true, false, true, false, true, false, false, false] rfl rfl (any_of HT_.out (by kernel_rfl)) (fun _ _ _ h => h) (Or.inl ⟨by rfl, ?_⟩) ?_ ?_
                            rotate_left
                            · intro w'
                              go_simp
                              with_reducible rfl
                            rotate_left
                            · simp only [Act.put, List.setIfInBounds_toArray, List.set_cons_zero, List.set_cons_succ, i64_w, i32_w]
                              rfl
                            refine take_ (i := 4) (N := some 95) (v := ?_) (a' := ?_) #[true, true, false, true, true, true, false, false, false] rfl rfl (take_ofW HT_.out HW_.out (by kernel_rfl)) (fun _ _ _ h => h) (Or.inl ⟨by rfl, ?_⟩) hHeld ?_ ?_
                            rotate_left
                            · rintro w' ⟨s0, s1, s2⟩
                              go_simp
                              with_reducible rfl
                            rotate_left
                            · simp only [Act.put, List.setIfInBounds_toArray, List.set_cons_zero, List.set_cons_succ, i64_w, i32_w]
                              rfl
                            refine one_ (i := 2) (N := some 93) #[true, true, true, true, true, true, false, false, false] rfl rfl (one_of HT_.out (by kernel_rfl)) (by decide) (fun K hK => ?_)
                            refine goes_ Try.func26 (by kernel_rfl) rfl #[.slice A3 l3.length c3, .int .i64 x16_4] (by rfl) rfl rfl (by (try simp only [List.map_toArray, List.map_cons, List.map_nil]); first | done | rfl | (simp only [List.length_drop, List.length_take]; rfl)) ?_
                            with_reducible refine (sets_Find.calls k4 _ _ l3 x16_4 t34 _ ?side1 ?side2 A68.out).mono ?_
                            (case side1 => repeat (first | exact (Kd.C_below HR3.out HB.out) | (with_reducible refine Kd.C_alloc ?_ _) | (with_reducible refine Kd.C_drewN ?_ _) | (with_reducible refine Kd.C_drew ?_)))
                            (case side2 => exact HC3.out)
                            rintro e w' ⟨rfl, ⟨nd, rfl⟩⟩
                            refine ⟨_, rfl, ?_⟩
                            refine hK.out _ _ ⟨(blk_cell BK25.out 0).trans rfl, (blk_cell BK25.out 1).trans rfl, (blk_cell BK25.out 2).trans rfl⟩ (fun hHeld => ?_)
                            clear hK K
                            refine norm_ (a' := ?_) ?_ ?_
                            rotate_left
                            · show Act.put _ (some 93) _ = _
                              simp only [Act.put, List.setIfInBounds_toArray, List.set_cons_zero, List.set_cons_succ, i64_w, i32_w]
                              rfl
                            refine one_ (i := 6) (N := some 97) #[true, true, true, true, true, true, true, false, false] rfl rfl (one_of HT_.out (by kernel_rfl)) (by decide) (fun K hK => ?_)
                            refine goes_ Try.func42 (by kernel_rfl) rfl #[.agg #[.slice Ao16 t14.length co16, .slice Ao19 t17.length co19, .slice Ao20 t20.length co20], .int .i64 x16_4] (by rfl) rfl rfl (by (try simp only [List.map_toArray, List.map_cons, List.map_nil]); first | done | rfl | (simp only [List.length_drop, List.length_take]; rfl)) ?_
                            with_reducible refine (memo_Find.calls k4 _ _ t14 _ _ t17 _ _ t20 x16_4 t35 _ ?side1 ?side2 ?side3 ?side4 ?side5 ?side6 A69.out).mono ?_
                            (case side1 => repeat (first | exact (Kd.R_reads' HO_26000.out).2.2 | (with_reducible refine Kd.C_alloc ?_ _) | (with_reducible refine Kd.C_drewN ?_ _) | (with_reducible refine Kd.C_drew ?_)))
                            (case side2 => exact (Kd.R_reads' HO_26000.out).2.1)
                            (case side3 => repeat (first | exact (Kd.R_reads' HO_26001.out).2.2 | (with_reducible refine Kd.C_alloc ?_ _) | (with_reducible refine Kd.C_drewN ?_ _) | (with_reducible refine Kd.C_drew ?_)))
                            (case side4 => exact (Kd.R_reads' HO_26001.out).2.1)
                            (case side5 => repeat (first | exact (Kd.R_reads' HO_26002.out).2.2 | (with_reducible refine Kd.C_alloc ?_ _) | (with_reducible refine Kd.C_drewN ?_ _) | (with_reducible refine Kd.C_drew ?_)))
                            (case side6 => exact (Kd.R_reads' HO_26002.out).2.1)
                            rintro e w76 ⟨rfl, hb⟩
                            refine ⟨_, rfl, ?_⟩
                            have n0_ := Aside0.mk (Kd.R_below (by (with_reducible repeat (first | apply Kd.R_alloc | apply Kd.R_drewN | apply Kd.R_drew)); exact HO_26000.out) hb)
                            have n1_ := Aside0.mk (Kd.R_below (by (with_reducible repeat (first | apply Kd.R_alloc | apply Kd.R_drewN | apply Kd.R_drew)); exact HO_26001.out) hb)
                            have n2_ := Aside0.mk (Kd.R_below (by (with_reducible repeat (first | apply Kd.R_alloc | apply Kd.R_drewN | apply Kd.R_drew)); exact HO_26002.out) hb)
                            have n3_ := Aside0.mk (blk_below (g := gb11) (o := .cells #[.slice A0_0 l0_0.length c0_0, .slice A0_1 l0_1.length c0_1, .slice A0_2 l0_2.length c0_2] 38 (0, 0)) (by (with_reducible repeat (first | refine blk_drewN ?_ _ | refine blk_drew ?_ | refine blk_alloc ?_ _)); exact BK11.out) hb)
                            have n4_ := Aside0.mk (blk_below (g := gb25) (o := .cells #[.slice Ao16 t14.length co16, .slice Ao19 t17.length co19, .slice Ao20 t20.length co20] 38 (0, 0)) (by (with_reducible repeat (first | refine blk_drewN ?_ _ | refine blk_drew ?_ | refine blk_alloc ?_ _)); exact BK25.out) hb)
                            have n5_ := Aside0.mk (blk_below (g := gb27) (o := .cells #[.slice A0_0 l0_0.length c0_0, .slice A0_1 l0_1.length c0_1, .slice A3 l3.length c3] 38 (0, 0)) (by (with_reducible repeat (first | refine blk_drewN ?_ _ | refine blk_drew ?_ | refine blk_alloc ?_ _)); exact BK27.out) hb)
                            have n6_ := Aside0.mk (below_step (by repeat (first | (with_reducible first | exact HB.out | apply below_alloc | apply pw_below_drewN | apply below_drew1 | refine below_set ?_ GE11.out | refine below_set ?_ GE25.out | refine below_set ?_ GE27.out) | exact HB.out)) hb)
                            clear HO_26000
                            clear HO_26001
                            clear HO_26002
                            clear BK11
                            clear BK25
                            clear BK27
                            clear HB
                            have HO_26000 := n0_
                            have HO_26001 := n1_
                            have HO_26002 := n2_
                            have BK11 := n3_
                            have BK25 := n4_
                            have BK27 := n5_
                            have HB := n6_
                            clear n0_ n1_ n2_ n3_ n4_ n5_ n6_
                            (try clear hb)
                            (try clear hb2)
                            (try clear hk)
                            (try clear hi)
                            refine hK.out _ _ ⟨(blk_cell BK25.out 0).trans rfl, (blk_cell BK25.out 1).trans rfl, (blk_cell BK25.out 2).trans rfl⟩ (fun hHeld => ?_)
                            clear hK K
                            refine norm_ (a' := ?_) ?_ ?_
                            rotate_left
                            · show Act.put _ (some 97) _ = _
                              simp only [Act.put, List.setIfInBounds_toArray, List.set_cons_zero, List.set_cons_succ, i64_w, i32_w]
                              rfl
                            refine one_ (i := 7) (N := some 98) #[true, true, true, true, true, true, true, true, false] rfl rfl (one_of HT_.out (by kernel_rfl)) (by decide) (fun K hK => ?_)
                            refine goes_ Try.func26 (by kernel_rfl) rfl #[.slice A3 l3.length c3, .int .i64 t35] (by rfl) rfl rfl (by (try simp only [List.map_toArray, List.map_cons, List.map_nil]); first | done | rfl | (simp only [List.length_drop, List.length_take]; rfl)) ?_
                            with_reducible refine (sets_Find.calls k4 _ _ l3 t35 t36 _ ?side1 ?side2 A70.out).mono ?_
                            (case side1 => repeat (first | exact (Kd.C_below HR3.out HB.out) | (with_reducible refine Kd.C_alloc ?_ _) | (with_reducible refine Kd.C_drewN ?_ _) | (with_reducible refine Kd.C_drew ?_)))
                            (case side2 => exact HC3.out)
                            rintro e w' ⟨rfl, ⟨nd, rfl⟩⟩
                            refine ⟨_, rfl, ?_⟩
                            refine hK.out _ _ ⟨(blk_cell BK25.out 0).trans rfl, (blk_cell BK25.out 1).trans rfl, (blk_cell BK25.out 2).trans rfl⟩ (fun hHeld => ?_)
                            clear hK K
                            refine norm_ (a' := ?_) ?_ ?_
                            rotate_left
                            · show Act.put _ (some 98) _ = _
                              simp only [Act.put, List.setIfInBounds_toArray, List.set_cons_zero, List.set_cons_succ, i64_w, i32_w]
                              rfl
                            refine pure_ (i := 8) (N := some 99) (v := ?_) (a' := ?_) #[true, true, true, true, true, true, true, true, true] rfl rfl (any_of HT_.out (by kernel_rfl)) (fun _ _ _ h => h) (Or.inl ⟨by rfl, ?_⟩) ?_ ?_
                            rotate_left
                            · intro w'
                              go_simp
                              with_reducible rfl
                            rotate_left
                            · simp only [Act.put, List.setIfInBounds_toArray, List.set_cons_zero, List.set_cons_succ, i64_w, i32_w]
                              rfl
                            refine done_ (done_of HT_.out (by kernel_rfl)) ?_
                            try go_wp2
                            go_roundg k4
                            case measure => have := HJ7.out; have := HK2.out; have := HJ49.out; have := HK4.out; omega
                            case rel => exact ⟨(wrap64 (x16_4 + 1)), (by first | rfl | (simp; done) | (simp [*]; done)), H', ⟨by have := HJ7.out; have := HK2.out; have := HJ49.out; have := HK4.out; omega⟩, ⟨by (with_reducible repeat (first | apply Kd.R_alloc | apply Kd.R_drewN | apply Kd.R_drew)); exact HO_26000.out⟩, ⟨by (with_reducible repeat (first | apply Kd.R_alloc | apply Kd.R_drewN | apply Kd.R_drew)); exact HO_26001.out⟩, ⟨by (with_reducible repeat (first | apply Kd.R_alloc | apply Kd.R_drewN | apply Kd.R_drew)); exact HO_26002.out⟩, ⟨by (with_reducible repeat (first | refine blk_drewN ?_ _ | refine blk_drew ?_ | refine blk_alloc ?_ _)); exact BK11.out⟩, ⟨by (with_reducible repeat (first | refine blk_drewN ?_ _ | refine blk_drew ?_ | refine blk_alloc ?_ _)); exact BK25.out⟩, ⟨by (with_reducible repeat (first | refine blk_drewN ?_ _ | refine blk_drew ?_ | refine blk_alloc ?_ _)); exact BK27.out⟩, ⟨by repeat (first | (with_reducible first | exact HB.out | apply below_alloc | apply pw_below_drewN | apply below_drew1 | refine below_set ?_ GE11.out | refine below_set ?_ GE25.out | refine below_set ?_ GE27.out) | exact HB.out)⟩⟩
                          · rw [if_neg c71] at H
                            have c71b0 : (t34 == t36) = false := beq_eq_false_iff_ne.mpr c71
                            have c71b1 : (t34 != t36) = true := bne_iff_ne.mpr c71
                            exact absurd (HRT.out.symm.trans (Option.some.inj H).symm) (by decide)
                        · rw [if_neg c67] at H
                          have c67b0 : decide (x16_4 < (l0_2.length : Int)) = false := decide_eq_false c67
                          clear c67
                          obtain rfl := Option.some.inj H
                          have hnb77 := NB11_25.out
                          have hnc77 := NB25_11.out
                          have hnb78 := NB11_27.out
                          have hnc78 := NB27_11.out
                          have hcz79_0 : wr.cell? ⟨gb11, 0, none⟩ = some (.slice A0_0 l0_0.length c0_0) := (blk_cell BK11.out 0).trans rfl
                          have hcz79_1 : wr.cell? ⟨gb11, 1, none⟩ = some (.slice A0_1 l0_1.length c0_1) := (blk_cell BK11.out 1).trans rfl
                          have hcz79_2 : wr.cell? ⟨gb11, 2, none⟩ = some (.slice A0_2 l0_2.length c0_2) := (blk_cell BK11.out 2).trans rfl
                          have hfz79_0 := blk_frozen BK11.out 0
                          have hfz79_1 := blk_frozen BK11.out 1
                          have hfz79_2 := blk_frozen BK11.out 2
                          go_wp2
                          go_ret
                          exact ⟨by first | rfl | (simp [errW_none, errW_some] <;> rfl) | (simp [*, errW_none, errW_some] <;> rfl), by repeat (first | (with_reducible first | exact HB.out | apply below_alloc | apply pw_below_drewN | apply below_drew1 | refine below_set ?_ GE11.out | refine below_set ?_ GE25.out | refine below_set ?_ GE27.out) | exact HB.out)⟩

end Go.Proofs.Ytkidnomkfdnciaa.All
