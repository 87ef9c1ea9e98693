/- Functions of the program as plain Lean functions, and proofs that the calls do what these say; written for this claim by a program of the session (wip/tools/mkprint.py), checked by Lean. -/
import Derived.Test.YtkidnomkfdnciaaAllx0
import Derived.Test.YtkidnomkfdnciaaAllx1
import Derived.Test.YtkidnomkfdnciaaAllx9
import Derived.Test.YtkidnomkfdnciaaAllx10
import Derived.Test.YtkidnomkfdnciaaAllx15
import Derived.Test.YtkidnomkfdnciaaAllx16
import Derived.Test.YtkidnomkfdnciaaAllx32
import Derived.Test.YtkidnomkfdnciaaAllx35
namespace Go.Proofs.Ytkidnomkfdnciaa.All
open Go.RowKit Go.Proofs.YtkidnomkfdnciaaW.PrintWords Go.Proofs.YtkidnomkfdnciaaW.PrintLast Go.Proofs.YtkidnomkfdnciaaW.PrintMore
attribute [local go_sem] max2_int min2_int max_two min_two max_three min_three max_four min_four   -- for this text's walks alone
set_option linter.unusedVariables false
set_option linter.unusedSimpArgs false

attribute [local go_sem high] eqA48
/-! ### roadbooklaw16_MemoOf: function 10 -/
mutual
def roadbooklaw16_MemoOf.j0 : Nat → Int → Int → Bool → Bool → List (S48) → List Int → List Int → Option (Bool)
 | 0, _, _, _, _, _, _, _ => none
 | k + 1, x1, x2, x7, x48, x12000, x12001, x12002 => if x48 = true then (some x7) else (if 0 ≤ x1 then (if x1 < (x12001.length : Int) then ((memo_Of.f k x12000 x12001 x12002 (rd x12001 x1)).bind fun t16 => (roadbooklaw16_MemoOf.l0 k x1 x2 t16 0 0 x12000 x12001 x12002)) else (none)) else (none))
def roadbooklaw16_MemoOf.l0 : Nat → Int → Int → List Int → Int → Int → List (S48) → List Int → List Int → Option (Bool)
 | 0, _, _, _, _, _, _, _, _ => none
 | k + 1, x1, x2, x9, x10, x11, x12000, x12001, x12002 => if x11 < (x9.length : Int) then (if 0 ≤ x11 then (if (rd x9 x11) < 0 then (roadbooklaw16_MemoOf.j2 k x1 x2 x9 x10 x11 true x12000 x12001 x12002) else (if (rd x9 x11) ≥ (x12000.length : Int) then (roadbooklaw16_MemoOf.j2 k x1 x2 x9 x10 x11 true x12000 x12001 x12002) else (if 0 ≤ (rd x9 x11) then (if (rd x9 x11) < (x12001.length : Int) then ((memo_Find.f k x12000 x12001 x12002 (rd x12001 (rd x9 x11))).bind fun t23 => (if 0 ≤ x1 then (if x1 < (x12001.length : Int) then ((memo_Find.f k x12000 x12001 x12002 (rd x12001 x1)).bind fun t25 => (roadbooklaw16_MemoOf.j2 k x1 x2 x9 x10 x11 (t23 != t25) x12000 x12001 x12002)) else (none)) else (none))) else (none)) else (none)))) else (none)) else (if 0 ≤ x1 then (if x1 < (x12000.length : Int) then ((memo_Canon.f k x12000 x12001 x12002 ((rd_T48 x12000 x1).f0) ((rd_T48 x12000 x1).f1) ((rd_T48 x12000 x1).f2) ((rd_T48 x12000 x1).f3)).bind fun bt38 => (if 0 ≤ x2 then (if x2 < (x12000.length : Int) then ((memo_Canon.f k x12000 x12001 x12002 ((rd_T48 x12000 x2).f0) ((rd_T48 x12000 x2).f1) ((rd_T48 x12000 x2).f2) ((rd_T48 x12000 x2).f3)).bind fun bt43 => (if x10 = 1 then (if ((bt38.1 == bt43.1 && (bt38.2.1 == bt43.2.1 && (bt38.2.2.1 == bt43.2.2.1 && (bt38.2.2.2 == bt43.2.2.2)))) = true) then (if x1 < (x12001.length : Int) then ((memo_Find.f k x12000 x12001 x12002 (rd x12001 x1)).bind fun t48 => (if x2 < (x12001.length : Int) then ((memo_Find.f k x12000 x12001 x12002 (rd x12001 x2)).bind fun t50 => (some (t48 == t50))) else (none))) else (none)) else (some true)) else (some false))) else (none)) else (none))) else (none)) else (none))
def roadbooklaw16_MemoOf.j2 : Nat → Int → Int → List Int → Int → Int → Bool → List (S48) → List Int → List Int → Option (Bool)
 | 0, _, _, _, _, _, _, _, _, _ => none
 | k + 1, x1, x2, x9, x10, x11, x97, x12000, x12001, x12002 => if x97 = true then (some false) else (if 0 ≤ x11 then (if x11 < (x9.length : Int) then (if 0 ≤ (rd x9 x11) then (if (rd x9 x11) < (x12000.length : Int) then ((memo_Canon.f k x12000 x12001 x12002 ((rd_T48 x12000 (rd x9 x11)).f0) ((rd_T48 x12000 (rd x9 x11)).f1) ((rd_T48 x12000 (rd x9 x11)).f2) ((rd_T48 x12000 (rd x9 x11)).f3)).bind fun bt28 => (if 0 ≤ x1 then (if x1 < (x12000.length : Int) then ((memo_Canon.f k x12000 x12001 x12002 ((rd_T48 x12000 x1).f0) ((rd_T48 x12000 x1).f1) ((rd_T48 x12000 x1).f2) ((rd_T48 x12000 x1).f3)).bind fun bt33 => (if (bt28.1 == bt33.1 && (bt28.2.1 == bt33.2.1 && (bt28.2.2.1 == bt33.2.2.1 && (bt28.2.2.2 == bt33.2.2.2)))) = true then (roadbooklaw16_MemoOf.l0 k x1 x2 x9 (wrap64 (x10 + 1)) (wrap64 (x11 + 1)) x12000 x12001 x12002) else (roadbooklaw16_MemoOf.l0 k x1 x2 x9 x10 (wrap64 (x11 + 1)) x12000 x12001 x12002))) else (none)) else (none))) else (none)) else (none)) else (none)) else (none))
end
def roadbooklaw16_MemoOf.f (k : Nat) (l0_0 : List (S48)) (l0_1 : List Int) (l0_2 : List Int) (a1 : Int) (a2 : Int) : Option (Bool) := (roadbooklaw16_awake.f k).bind fun t12 => ((roadbooklaw16_few.f l0_0 l0_1 l0_2 60).bind fun t13 => (if t12 = true then (if t13 = true then ((memo_May.f l0_0 l0_1 l0_2).bind fun t14 => (if t14 = true then (if a1 < 0 then (roadbooklaw16_MemoOf.j0 k a1 a2 t12 true l0_0 l0_1 l0_2) else (if a2 < 0 then (roadbooklaw16_MemoOf.j0 k a1 a2 t12 true l0_0 l0_1 l0_2) else (if a1 ≥ (l0_0.length : Int) then (roadbooklaw16_MemoOf.j0 k a1 a2 t12 true l0_0 l0_1 l0_2) else (roadbooklaw16_MemoOf.j0 k a1 a2 t12 (decide (a2 ≥ (l0_0.length : Int))) l0_0 l0_1 l0_2)))) else (roadbooklaw16_MemoOf.j0 k a1 a2 t12 true l0_0 l0_1 l0_2))) else (roadbooklaw16_MemoOf.j0 k a1 a2 t12 true l0_0 l0_1 l0_2)) else (roadbooklaw16_MemoOf.j0 k a1 a2 t12 true l0_0 l0_1 l0_2)))
theorem roadbooklaw16_MemoOf.mono_l : ∀ k, (∀ y0 y1 y2 y3 y4 y5 y6, LeO (roadbooklaw16_MemoOf.j0 k y0 y1 y2 y3 y4 y5 y6) (roadbooklaw16_MemoOf.j0 (k + 1) y0 y1 y2 y3 y4 y5 y6)) ∧ (∀ y0 y1 y2 y3 y4 y5 y6 y7, LeO (roadbooklaw16_MemoOf.l0 k y0 y1 y2 y3 y4 y5 y6 y7) (roadbooklaw16_MemoOf.l0 (k + 1) y0 y1 y2 y3 y4 y5 y6 y7)) ∧ (∀ y0 y1 y2 y3 y4 y5 y6 y7 y8, LeO (roadbooklaw16_MemoOf.j2 k y0 y1 y2 y3 y4 y5 y6 y7 y8) (roadbooklaw16_MemoOf.j2 (k + 1) y0 y1 y2 y3 y4 y5 y6 y7 y8))
 | 0 => ⟨fun _ _ _ _ _ _ _ r h => by simp [roadbooklaw16_MemoOf.j0] at h, fun _ _ _ _ _ _ _ _ r h => by simp [roadbooklaw16_MemoOf.l0] at h, fun _ _ _ _ _ _ _ _ _ r h => by simp [roadbooklaw16_MemoOf.j2] at h⟩
 | k + 1 => by
  obtain ⟨ih0, ih1, ih2⟩ := roadbooklaw16_MemoOf.mono_l k
  refine ⟨?_, ?_, ?_⟩
  ·intro y0 y1 y2 y3 y4 y5 y6
   unfold roadbooklaw16_MemoOf.j0
   repeat' first
   | (with_reducible exact ih0 _ _ _ _ _ _ _)
   | (with_reducible exact ih1 _ _ _ _ _ _ _ _)
   | (with_reducible exact ih2 _ _ _ _ _ _ _ _ _)
   | (with_reducible exact memo_Canon.mono _ _ _ _ _ _ _ _)
   | (with_reducible exact memo_Find.mono _ _ _ _ _)
   | (with_reducible exact memo_Of.mono _ _ _ _ _)
   | (with_reducible exact roadbooklaw16_awake.mono _)
   | (with_reducible exact LeO.refl _)
   | (with_reducible exact LeO.none _)
   | (with_reducible refine LeO.ite ?_ ?_)
   | (with_reducible refine LeO.bind ?_ (fun _ => ?_))
   | exact ih0 _ _ _ _ _ _ _
   | exact ih1 _ _ _ _ _ _ _ _
   | exact ih2 _ _ _ _ _ _ _ _ _
   | exact memo_Canon.mono _ _ _ _ _ _ _ _
   | exact memo_Find.mono _ _ _ _ _
   | exact memo_Of.mono _ _ _ _ _
   | exact roadbooklaw16_awake.mono _
   | exact LeO.none _
   | refine LeO.ite ?_ ?_
   | refine LeO.bind ?_ (fun _ => ?_)
  ·intro y0 y1 y2 y3 y4 y5 y6 y7
   unfold roadbooklaw16_MemoOf.l0
   repeat' first
   | (with_reducible exact ih0 _ _ _ _ _ _ _)
   | (with_reducible exact ih1 _ _ _ _ _ _ _ _)
   | (with_reducible exact ih2 _ _ _ _ _ _ _ _ _)
   | (with_reducible exact memo_Canon.mono _ _ _ _ _ _ _ _)
   | (with_reducible exact memo_Find.mono _ _ _ _ _)
   | (with_reducible exact memo_Of.mono _ _ _ _ _)
   | (with_reducible exact roadbooklaw16_awake.mono _)
   | (with_reducible exact LeO.refl _)
   | (with_reducible exact LeO.none _)
   | (with_reducible refine LeO.ite ?_ ?_)
   | (with_reducible refine LeO.bind ?_ (fun _ => ?_))
   | exact ih0 _ _ _ _ _ _ _
   | exact ih1 _ _ _ _ _ _ _ _
   | exact ih2 _ _ _ _ _ _ _ _ _
   | exact memo_Canon.mono _ _ _ _ _ _ _ _
   | exact memo_Find.mono _ _ _ _ _
   | exact memo_Of.mono _ _ _ _ _
   | exact roadbooklaw16_awake.mono _
   | exact LeO.none _
   | refine LeO.ite ?_ ?_
   | refine LeO.bind ?_ (fun _ => ?_)
  ·intro y0 y1 y2 y3 y4 y5 y6 y7 y8
   unfold roadbooklaw16_MemoOf.j2
   repeat' first
   | (with_reducible exact ih0 _ _ _ _ _ _ _)
   | (with_reducible exact ih1 _ _ _ _ _ _ _ _)
   | (with_reducible exact ih2 _ _ _ _ _ _ _ _ _)
   | (with_reducible exact memo_Canon.mono _ _ _ _ _ _ _ _)
   | (with_reducible exact memo_Find.mono _ _ _ _ _)
   | (with_reducible exact memo_Of.mono _ _ _ _ _)
   | (with_reducible exact roadbooklaw16_awake.mono _)
   | (with_reducible exact LeO.refl _)
   | (with_reducible exact LeO.none _)
   | (with_reducible refine LeO.ite ?_ ?_)
   | (with_reducible refine LeO.bind ?_ (fun _ => ?_))
   | exact ih0 _ _ _ _ _ _ _
   | exact ih1 _ _ _ _ _ _ _ _
   | exact ih2 _ _ _ _ _ _ _ _ _
   | exact memo_Canon.mono _ _ _ _ _ _ _ _
   | exact memo_Find.mono _ _ _ _ _
   | exact memo_Of.mono _ _ _ _ _
   | exact roadbooklaw16_awake.mono _
   | exact LeO.none _
   | refine LeO.ite ?_ ?_
   | refine LeO.bind ?_ (fun _ => ?_)
theorem roadbooklaw16_MemoOf.mono : ∀ a0 a1 a2 a3 a4 k, LeO (roadbooklaw16_MemoOf.f k a0 a1 a2 a3 a4) (roadbooklaw16_MemoOf.f (k + 1) a0 a1 a2 a3 a4) := by
 intro a0 a1 a2 a3 a4 k
 obtain ⟨ih0, ih1, ih2⟩ := roadbooklaw16_MemoOf.mono_l k
 unfold roadbooklaw16_MemoOf.f
 repeat' first
   | (with_reducible exact ih0 _ _ _ _ _ _ _)
   | (with_reducible exact ih1 _ _ _ _ _ _ _ _)
   | (with_reducible exact ih2 _ _ _ _ _ _ _ _ _)
   | (with_reducible exact memo_Canon.mono _ _ _ _ _ _ _ _)
   | (with_reducible exact memo_Find.mono _ _ _ _ _)
   | (with_reducible exact memo_Of.mono _ _ _ _ _)
   | (with_reducible exact roadbooklaw16_awake.mono _)
   | (with_reducible exact LeO.refl _)
   | (with_reducible exact LeO.none _)
   | (with_reducible refine LeO.ite ?_ ?_)
   | (with_reducible refine LeO.bind ?_ (fun _ => ?_))
   | exact ih0 _ _ _ _ _ _ _
   | exact ih1 _ _ _ _ _ _ _ _
   | exact ih2 _ _ _ _ _ _ _ _ _
   | exact memo_Canon.mono _ _ _ _ _ _ _ _
   | exact memo_Find.mono _ _ _ _ _
   | exact memo_Of.mono _ _ _ _ _
   | exact roadbooklaw16_awake.mono _
   | exact LeO.none _
   | refine LeO.ite ?_ ?_
   | refine LeO.bind ?_ (fun _ => ?_)
def roadbooklaw16_MemoOf.T5 : Bool × List (List Nat × List Nat) := (true, [([], []), ([], []), ([1], [1]), ([], []), ([2, 3], [2, 3]), ([4], [4]), ([0, 5], [0, 5]), ([6, 6, 0, 1, 2, 3, 4, 5, 6], [6])])
def roadbooklaw16_MemoOf.B5 : List Nat := [0, 0, 2, 0, 14, 30, 63, 127]
theorem roadbooklaw16_MemoOf.tab5 : rtab .any (opsOf Try.f10 5) = roadbooklaw16_MemoOf.T5 := by kernel_rfl
theorem roadbooklaw16_MemoOf.bits5 : waitsOk roadbooklaw16_MemoOf.T5.2 roadbooklaw16_MemoOf.B5 = true := by kernel_rfl
def roadbooklaw16_MemoOf.T10 : Bool × List (List Nat × List Nat) := (true, [([], []), ([], []), ([0, 1], [0, 1]), ([2], [2]), ([3], [3]), ([4], [4]), ([5], [5]), ([5], [5]), ([6, 7, 5], [5, 6, 7]), ([8, 5], [5, 8]), ([5], [5]), ([10, 5], [5, 10]), ([11, 5], [5, 11]), ([9, 12, 5], [5, 9, 12]), ([5, 13], [5, 13]), ([14, 5], [14]), ([15], [15]), ([15], [15]), ([17, 15], [15, 17]), ([15], [15]), ([15], [15]), ([19, 20, 15], [15, 19, 20]), ([21, 15], [15, 21]), ([18, 22, 15], [15, 18, 22]), ([23, 15], [15, 23]), ([16, 24, 15, 15], [15, 16, 24]), ([15], [15]), ([15], [15]), ([27, 15], [15, 27]), ([15], [15]), ([28, 29, 15], [15, 28, 29]), ([30, 15], [15, 30]), ([26, 31, 25, 15], [15, 26, 31]), ([25, 32, 15], [15, 25, 32]), ([15, 33], [15, 33])])
def roadbooklaw16_MemoOf.B10 : List Nat := [0, 0, 3, 7, 15, 31, 63, 63, 255, 511, 63, 1087, 3135, 8191, 16383, 32767, 65535, 65535, 196607, 65535, 65535, 1638399, 3735551, 8323071, 16711679, 33554431, 65535, 65535, 134283263, 65535, 939589631, 2013331455, 4294967295, 8589934591, 17179869183]
theorem roadbooklaw16_MemoOf.tab10 : rtab .any (opsOf Try.f10 10) = roadbooklaw16_MemoOf.T10 := by kernel_rfl
theorem roadbooklaw16_MemoOf.bits10 : waitsOk roadbooklaw16_MemoOf.T10.2 roadbooklaw16_MemoOf.B10 = true := by kernel_rfl
def roadbooklaw16_MemoOf.T12 : Bool × List (List Nat × List Nat) := (true, [([], []), ([], []), ([1], [1]), ([], []), ([], []), ([3, 4], [3, 4]), ([5], [5]), ([2, 6], [2, 6]), ([7], [7]), ([0, 8], [0, 8]), ([], []), ([], []), ([11], [11]), ([], []), ([12, 13], [12, 13]), ([14], [14]), ([10, 15, 9], [10, 15]), ([9, 16], [9, 16])])
def roadbooklaw16_MemoOf.B12 : List Nat := [0, 0, 2, 0, 0, 24, 56, 126, 254, 511, 0, 0, 2048, 0, 14336, 30720, 65535, 131071]
theorem roadbooklaw16_MemoOf.tab12 : rtab .any (opsOf Try.f10 12) = roadbooklaw16_MemoOf.T12 := by kernel_rfl
theorem roadbooklaw16_MemoOf.bits12 : waitsOk roadbooklaw16_MemoOf.T12.2 roadbooklaw16_MemoOf.B12 = true := by kernel_rfl
def roadbooklaw16_MemoOf.T14 : Bool × List (List Nat × List Nat) := (true, [([], []), ([], []), ([1], [1]), ([], []), ([2, 3], [2, 3]), ([4], [4]), ([0, 5], [0, 5]), ([], []), ([], []), ([8], [8]), ([], []), ([9, 10], [9, 10]), ([11], [11]), ([7, 12, 6], [7, 12]), ([6, 13], [6, 13]), ([14, 13, 0, 1, 2, 3, 4, 5, 6, 7, 8, 9, 10, 11, 12, 13, 14], [14])])
def roadbooklaw16_MemoOf.B14 : List Nat := [0, 0, 2, 0, 14, 30, 63, 0, 0, 256, 0, 1792, 3840, 8191, 16383, 32767]
theorem roadbooklaw16_MemoOf.tab14 : rtab .any (opsOf Try.f10 14) = roadbooklaw16_MemoOf.T14 := by kernel_rfl
theorem roadbooklaw16_MemoOf.bits14 : waitsOk roadbooklaw16_MemoOf.T14.2 roadbooklaw16_MemoOf.B14 = true := by kernel_rfl
def roadbooklaw16_MemoOf.T15 : Bool × List (List Nat × List Nat) := (true, [([], []), ([0], [0]), ([1], [1]), ([2], [2]), ([3, 2], [2, 3]), ([4, 2, 2], [2, 4]), ([5], [5]), ([5], [5]), ([7, 5], [5, 7]), ([5], [5]), ([8, 9, 5], [5, 8, 9]), ([10, 5], [5, 10]), ([6, 11, 5, 5], [5, 6, 11]), ([5], [5]), ([5], [5]), ([14, 5], [5, 14]), ([5], [5]), ([15, 16, 5], [5, 15, 16]), ([17, 5], [5, 17]), ([13, 18, 12, 5], [5, 13, 18]), ([12, 19, 5], [5, 12, 19]), ([5, 20, 2], [2, 5, 20]), ([2, 21], [2, 21]), ([22, 19, 0, 1, 2, 3, 4, 5, 6, 7, 8, 9, 10, 11, 12, 13, 14, 15, 16, 17, 18, 19, 20, 21, 22], [22])])
def roadbooklaw16_MemoOf.B15 : List Nat := [0, 1, 3, 7, 15, 31, 63, 63, 191, 63, 959, 1983, 4095, 63, 63, 16447, 63, 114751, 245823, 524287, 1048575, 2097151, 4194303, 8388607]
theorem roadbooklaw16_MemoOf.tab15 : rtab .any (opsOf Try.f10 15) = roadbooklaw16_MemoOf.T15 := by kernel_rfl
theorem roadbooklaw16_MemoOf.bits15 : waitsOk roadbooklaw16_MemoOf.T15.2 roadbooklaw16_MemoOf.B15 = true := by kernel_rfl
set_option maxHeartbeats 8000000 in
set_option maxRecDepth 100000 in
theorem roadbooklaw16_MemoOf.calls (k : Nat) (A0_0 : Option Addr) (c0_0 : Nat) (l0_0 : List (S48)) (A0_1 : Option Addr) (c0_1 : Nat) (l0_1 : List Int) (A0_2 : Option Addr) (c0_2 : Nat) (l0_2 : List Int) (a1 : Int) (a2 : Int) (r : Bool) (w : World) (hr0_0 : Kd.C k48 w A0_0 l0_0.length l0_0) (hc0_0 : l0_0.length ≤ c0_0) (hr0_1 : Kd.C (Kd.int .i64) w A0_1 l0_1.length l0_1) (hc0_1 : l0_1.length ≤ c0_1) (hr0_2 : Kd.C (Kd.int .i64) w A0_2 l0_2.length l0_2) (hc0_2 : l0_2.length ≤ c0_2) (hrt : r = true) (h : roadbooklaw16_MemoOf.f k l0_0 l0_1 l0_2 a1 a2 = some r) :
  Calls Try.prog 10 #[.agg #[.slice A0_0 l0_0.length c0_0, .slice A0_1 l0_1.length c0_1, .slice A0_2 l0_2.length c0_2], .int .i64 a1, .int .i64 a2] w fun e w' => e = .returned (.bool r) ∧ Below w.heap.size w w' := by
 have HRT := Aside0.mk hrt
 clear hrt
 have hu38 := Try.underlying38
 have hu48 := Try.underlying48
 have HR0_0 := Aside0.mk hr0_0
 have HC0_0 := Aside0.mk hc0_0
 clear hr0_0 hc0_0
 have HR0_1 := Aside0.mk hr0_1
 have HC0_1 := Aside0.mk hc0_1
 clear hr0_1 hc0_1
 have HR0_2 := Aside0.mk hr0_2
 have HC0_2 := Aside0.mk hc0_2
 clear hr0_2 hc0_2
 have HB := Aside0.mk (Below.refl w.heap.size w)
 have H : ((roadbooklaw16_awake.f k).bind fun t12 => ((roadbooklaw16_few.f l0_0 l0_1 l0_2 60).bind fun t13 => (if t12 = true then (if t13 = true then ((memo_May.f l0_0 l0_1 l0_2).bind fun t14 => (if t14 = true then (if a1 < 0 then (roadbooklaw16_MemoOf.j0 k a1 a2 t12 true l0_0 l0_1 l0_2) else (if a2 < 0 then (roadbooklaw16_MemoOf.j0 k a1 a2 t12 true l0_0 l0_1 l0_2) else (if a1 ≥ (l0_0.length : Int) then (roadbooklaw16_MemoOf.j0 k a1 a2 t12 true l0_0 l0_1 l0_2) else (roadbooklaw16_MemoOf.j0 k a1 a2 t12 (decide (a2 ≥ (l0_0.length : Int))) l0_0 l0_1 l0_2)))) else (roadbooklaw16_MemoOf.j0 k a1 a2 t12 true l0_0 l0_1 l0_2))) else (roadbooklaw16_MemoOf.j0 k a1 a2 t12 true l0_0 l0_1 l0_2)) else (roadbooklaw16_MemoOf.j0 k a1 a2 t12 true l0_0 l0_1 l0_2)))) = some r := h
 clear h
 replace H := Option.bind_eq_some_iff.mp H
 obtain ⟨t12, A40, H⟩ := H
 replace H : ((roadbooklaw16_few.f l0_0 l0_1 l0_2 60).bind fun t13 => (if t12 = true then (if t13 = true then ((memo_May.f l0_0 l0_1 l0_2).bind fun t14 => (if t14 = true then (if a1 < 0 then (roadbooklaw16_MemoOf.j0 k a1 a2 t12 true l0_0 l0_1 l0_2) else (if a2 < 0 then (roadbooklaw16_MemoOf.j0 k a1 a2 t12 true l0_0 l0_1 l0_2) else (if a1 ≥ (l0_0.length : Int) then (roadbooklaw16_MemoOf.j0 k a1 a2 t12 true l0_0 l0_1 l0_2) else (roadbooklaw16_MemoOf.j0 k a1 a2 t12 (decide (a2 ≥ (l0_0.length : Int))) l0_0 l0_1 l0_2)))) else (roadbooklaw16_MemoOf.j0 k a1 a2 t12 true l0_0 l0_1 l0_2))) else (roadbooklaw16_MemoOf.j0 k a1 a2 t12 true l0_0 l0_1 l0_2)) else (roadbooklaw16_MemoOf.j0 k a1 a2 t12 true l0_0 l0_1 l0_2))) = some r := H
 have A4 := Aside0.mk A40
 clear A40
 replace H := Option.bind_eq_some_iff.mp H
 obtain ⟨t13, A50, H⟩ := H
 replace H : (if t12 = true then (if t13 = true then ((memo_May.f l0_0 l0_1 l0_2).bind fun t14 => (if t14 = true then (if a1 < 0 then (roadbooklaw16_MemoOf.j0 k a1 a2 t12 true l0_0 l0_1 l0_2) else (if a2 < 0 then (roadbooklaw16_MemoOf.j0 k a1 a2 t12 true l0_0 l0_1 l0_2) else (if a1 ≥ (l0_0.length : Int) then (roadbooklaw16_MemoOf.j0 k a1 a2 t12 true l0_0 l0_1 l0_2) else (roadbooklaw16_MemoOf.j0 k a1 a2 t12 (decide (a2 ≥ (l0_0.length : Int))) l0_0 l0_1 l0_2)))) else (roadbooklaw16_MemoOf.j0 k a1 a2 t12 true l0_0 l0_1 l0_2))) else (roadbooklaw16_MemoOf.j0 k a1 a2 t12 true l0_0 l0_1 l0_2)) else (roadbooklaw16_MemoOf.j0 k a1 a2 t12 true l0_0 l0_1 l0_2)) = some r := H
 have A5 := Aside0.mk A50
 clear A50
 have HC6 := Aside0.mk H
 clear H
 go_enter Try.func10, Try.ntmps10
 go_upto_region 3 with (first | ((with_reducible refine gate_dst (N := 3) rfl ?_); (try (refine gate_guard (by rfl) ?_; dsimp only)); refine box_event ?hg (N := 3) ?hd (cs := #[.slice A0_0 l0_0.length c0_0, .slice A0_1 l0_1.length c0_1, .slice A0_2 l0_2.length c0_2]) (t := 38) ?hr ?_; (case hd => rfl); (case hg => rfl); (case hr => first | (go_simp; done) | (go_simp; rfl)); intro gb11 hg w7 hbox hb; have n0_ := Aside0.mk (below_step (by repeat (first | (with_reducible first | exact HB.out | apply below_alloc | apply pw_below_drewN | apply below_drew1) | exact HB.out)) hb); have n1_ := Aside0.mk (hbox); have n2_ := Aside0.mk ((by rw [hg]; exact (below_size (by repeat (first | (with_reducible first | exact HB.out | apply below_alloc | apply pw_below_drewN | apply below_drew1) | exact HB.out))) : w.heap.size ≤ gb11)); have n3_ := Aside0.mk ((by rw [hg]; exact (below_size (by repeat (first | (with_reducible first | exact HB.out | apply below_alloc | apply pw_below_drewN | apply below_drew1) | exact HB.out))) : w.heap.size ≤ gb11)); clear HB; have HB := n0_; have BK11 := n1_; have GW11 := n2_; have GE11 := n3_; clear n0_ n1_ n2_ n3_; clear hb hbox hg) | ((with_reducible refine gate_callee (f := 38) rfl ?_); refine goesL_ (some 13) rfl rfl Try.func38 (by kernel_rfl) rfl #[] rfl (by (try simp only [List.map_toArray, List.map_cons, List.map_nil]); first | done | rfl | (simp only [List.length_drop, List.length_take]; rfl)) ?_; (with_reducible refine (roadbooklaw16_awake.calls k  t12 _ A4.out).mono ?_); rintro e w8 ⟨rfl, hb⟩; refine ⟨_, rfl, ?_⟩; have n0_ := Aside0.mk (blk_below (g := gb11) (o := .cells #[.slice A0_0 l0_0.length c0_0, .slice A0_1 l0_1.length c0_1, .slice A0_2 l0_2.length c0_2] 38 (0, 0)) (by (with_reducible repeat (first | refine blk_drewN ?_ _ | refine blk_drew ?_ | refine blk_alloc ?_ _)); exact BK11.out) hb); have n1_ := Aside0.mk (below_step (by repeat (first | (with_reducible first | exact HB.out | apply below_alloc | apply pw_below_drewN | apply below_drew1 | refine below_set ?_ GE11.out) | exact HB.out)) hb); clear BK11; clear HB; have BK11 := n0_; have HB := n1_; clear n0_ n1_; (try clear hb); (try clear hb2); (try clear hk); (try clear hi); have hcz9_0 : w8.cell? ⟨gb11, 0, none⟩ = some (.slice A0_0 l0_0.length c0_0) := (blk_cell BK11.out 0).trans rfl; have hcz9_1 : w8.cell? ⟨gb11, 1, none⟩ = some (.slice A0_1 l0_1.length c0_1) := (blk_cell BK11.out 1).trans rfl; have hcz9_2 : w8.cell? ⟨gb11, 2, none⟩ = some (.slice A0_2 l0_2.length c0_2) := (blk_cell BK11.out 2).trans rfl; have hfz9_0 := blk_frozen BK11.out 0; have hfz9_1 := blk_frozen BK11.out 1; have hfz9_2 := blk_frozen BK11.out 2) | ((with_reducible refine gate_callee (f := 39) rfl ?_); refine goesL_ (some 15) rfl rfl Try.func39 (by kernel_rfl) rfl #[.agg #[.slice A0_0 l0_0.length c0_0, .slice A0_1 l0_1.length c0_1, .slice A0_2 l0_2.length c0_2], .int .i64 60] rfl (by (try simp only [List.map_toArray, List.map_cons, List.map_nil]); first | done | rfl | (simp only [List.length_drop, List.length_take]; rfl)) ?_; (with_reducible refine (roadbooklaw16_few.calls _ _ l0_0 _ _ l0_1 _ _ l0_2 60 t13 _ ?side1 ?side2 ?side3 ?side4 ?side5 ?side6 A5.out).mono ?_); (case side1 => repeat (first | exact (Kd.C_below HR0_0.out HB.out) | (with_reducible refine Kd.C_alloc ?_ _) | (with_reducible refine Kd.C_drewN ?_ _) | (with_reducible refine Kd.C_drew ?_))); (case side2 => exact HC0_0.out); (case side3 => repeat (first | exact (Kd.C_below HR0_1.out HB.out) | (with_reducible refine Kd.C_alloc ?_ _) | (with_reducible refine Kd.C_drewN ?_ _) | (with_reducible refine Kd.C_drew ?_))); (case side4 => exact HC0_1.out); (case side5 => repeat (first | exact (Kd.C_below HR0_2.out HB.out) | (with_reducible refine Kd.C_alloc ?_ _) | (with_reducible refine Kd.C_drewN ?_ _) | (with_reducible refine Kd.C_drew ?_))); (case side6 => exact HC0_2.out); rintro e w10 ⟨rfl, hb⟩; refine ⟨_, rfl, ?_⟩; have n0_ := Aside0.mk (blk_below (g := gb11) (o := .cells #[.slice A0_0 l0_0.length c0_0, .slice A0_1 l0_1.length c0_1, .slice A0_2 l0_2.length c0_2] 38 (0, 0)) (by (with_reducible repeat (first | refine blk_drewN ?_ _ | refine blk_drew ?_ | refine blk_alloc ?_ _)); exact BK11.out) hb); have n1_ := Aside0.mk (below_step (by repeat (first | (with_reducible first | exact HB.out | apply below_alloc | apply pw_below_drewN | apply below_drew1 | refine below_set ?_ GE11.out) | exact HB.out)) hb); clear BK11; clear HB; have BK11 := n0_; have HB := n1_; clear n0_ n1_; (try clear hb); (try clear hb2); (try clear hk); (try clear hi)))
 (try simp only [Act.put, List.setIfInBounds_toArray, List.set_cons_zero, List.set_cons_succ])
 go_cut [48] (fun v48 wc => ∃ (kq : Nat) (x48_5 : Bool), v48 = .bool x48_5 ∧ Aside0 (roadbooklaw16_MemoOf.j0 kq a1 a2 t12 x48_5 l0_0 l0_1 l0_2 = some r) ∧ Aside0 (kq ≤ k) ∧ Aside0 (wc.heap[gb11]? = some (.cells #[(.slice A0_0 l0_0.length c0_0), (.slice A0_1 l0_1.length c0_1), (.slice A0_2 l0_2.length c0_2)] 38 (0, 0))) ∧ Aside0 (Below w.heap.size w wc))
 case first =>
  have H := HC6.out
  clear HC6
  by_cases c11 : t12 = true
  ·subst c11
   have H1 : (if t13 = true then ((memo_May.f l0_0 l0_1 l0_2).bind fun t14 => (if t14 = true then (if a1 < 0 then (roadbooklaw16_MemoOf.j0 k a1 a2 true true l0_0 l0_1 l0_2) else (if a2 < 0 then (roadbooklaw16_MemoOf.j0 k a1 a2 true true l0_0 l0_1 l0_2) else (if a1 ≥ (l0_0.length : Int) then (roadbooklaw16_MemoOf.j0 k a1 a2 true true l0_0 l0_1 l0_2) else (roadbooklaw16_MemoOf.j0 k a1 a2 true (decide (a2 ≥ (l0_0.length : Int))) l0_0 l0_1 l0_2)))) else (roadbooklaw16_MemoOf.j0 k a1 a2 true true l0_0 l0_1 l0_2))) else (roadbooklaw16_MemoOf.j0 k a1 a2 true true l0_0 l0_1 l0_2)) = some r := by rw [if_pos rfl] at H; exact H
   clear H
   have H := H1
   clear H1
   by_cases c12 : t13 = true
   ·subst c12
    have H1 : ((memo_May.f l0_0 l0_1 l0_2).bind fun t14 => (if t14 = true then (if a1 < 0 then (roadbooklaw16_MemoOf.j0 k a1 a2 true true l0_0 l0_1 l0_2) else (if a2 < 0 then (roadbooklaw16_MemoOf.j0 k a1 a2 true true l0_0 l0_1 l0_2) else (if a1 ≥ (l0_0.length : Int) then (roadbooklaw16_MemoOf.j0 k a1 a2 true true l0_0 l0_1 l0_2) else (roadbooklaw16_MemoOf.j0 k a1 a2 true (decide (a2 ≥ (l0_0.length : Int))) l0_0 l0_1 l0_2)))) else (roadbooklaw16_MemoOf.j0 k a1 a2 true true l0_0 l0_1 l0_2))) = some r := by rw [if_pos rfl] at H; exact H
    clear H
    have H := H1
    clear H1
    replace H := Option.bind_eq_some_iff.mp H
    obtain ⟨t14, A130, H⟩ := H
    replace H : (if t14 = true then (if a1 < 0 then (roadbooklaw16_MemoOf.j0 k a1 a2 true true l0_0 l0_1 l0_2) else (if a2 < 0 then (roadbooklaw16_MemoOf.j0 k a1 a2 true true l0_0 l0_1 l0_2) else (if a1 ≥ (l0_0.length : Int) then (roadbooklaw16_MemoOf.j0 k a1 a2 true true l0_0 l0_1 l0_2) else (roadbooklaw16_MemoOf.j0 k a1 a2 true (decide (a2 ≥ (l0_0.length : Int))) l0_0 l0_1 l0_2)))) else (roadbooklaw16_MemoOf.j0 k a1 a2 true true l0_0 l0_1 l0_2)) = some r := H
    have A13 := Aside0.mk A130
    clear A130
    by_cases c14 : t14 = true
    ·subst c14
     have H1 : (if a1 < 0 then (roadbooklaw16_MemoOf.j0 k a1 a2 true true l0_0 l0_1 l0_2) else (if a2 < 0 then (roadbooklaw16_MemoOf.j0 k a1 a2 true true l0_0 l0_1 l0_2) else (if a1 ≥ (l0_0.length : Int) then (roadbooklaw16_MemoOf.j0 k a1 a2 true true l0_0 l0_1 l0_2) else (roadbooklaw16_MemoOf.j0 k a1 a2 true (decide (a2 ≥ (l0_0.length : Int))) l0_0 l0_1 l0_2)))) = some r := by rw [if_pos rfl] at H; exact H
     clear H
     have H := H1
     clear H1
     by_cases c15 : a1 < 0
     ·rw [if_pos c15] at H
      have c15b0 : decide (a1 < 0) = true := decide_eq_true c15
      clear c15
      (first | rw [c15b0] | (simp only [i64_w, i32_w]; rw [c15b0]) | skip)
      have H' := Aside0.mk H
      clear H
      have hcz16_0 : w10.cell? ⟨gb11, 0, none⟩ = some (.slice A0_0 l0_0.length c0_0) := (blk_cell BK11.out 0).trans rfl
      have hcz16_1 : w10.cell? ⟨gb11, 1, none⟩ = some (.slice A0_1 l0_1.length c0_1) := (blk_cell BK11.out 1).trans rfl
      have hcz16_2 : w10.cell? ⟨gb11, 2, none⟩ = some (.slice A0_2 l0_2.length c0_2) := (blk_cell BK11.out 2).trans rfl
      have hfz16_0 := blk_frozen BK11.out 0
      have hfz16_1 := blk_frozen BK11.out 1
      have hfz16_2 := blk_frozen BK11.out 2
      go_wp2_with (first | (go_at_call 41; (with_reducible refine (memo_May.calls _ _ l0_0 _ _ l0_1 _ _ l0_2 true _ ?side1 ?side2 ?side3 ?side4 ?side5 ?side6 A13.out).mono ?_); (case side1 => repeat (first | exact (Kd.C_below HR0_0.out HB.out) | (with_reducible refine Kd.C_alloc ?_ _) | (with_reducible refine Kd.C_drewN ?_ _) | (with_reducible refine Kd.C_drew ?_))); (case side2 => exact HC0_0.out); (case side3 => repeat (first | exact (Kd.C_below HR0_1.out HB.out) | (with_reducible refine Kd.C_alloc ?_ _) | (with_reducible refine Kd.C_drewN ?_ _) | (with_reducible refine Kd.C_drew ?_))); (case side4 => exact HC0_1.out); (case side5 => repeat (first | exact (Kd.C_below HR0_2.out HB.out) | (with_reducible refine Kd.C_alloc ?_ _) | (with_reducible refine Kd.C_drewN ?_ _) | (with_reducible refine Kd.C_drew ?_))); (case side6 => exact HC0_2.out); rintro e w17 ⟨rfl, hb⟩; have n0_ := Aside0.mk (blk_below (g := gb11) (o := .cells #[.slice A0_0 l0_0.length c0_0, .slice A0_1 l0_1.length c0_1, .slice A0_2 l0_2.length c0_2] 38 (0, 0)) (by (with_reducible repeat (first | refine blk_drewN ?_ _ | refine blk_drew ?_ | refine blk_alloc ?_ _)); exact BK11.out) hb); have n1_ := Aside0.mk (below_step (by repeat (first | (with_reducible first | exact HB.out | apply below_alloc | apply pw_below_drewN | apply below_drew1 | refine below_set ?_ GE11.out) | exact HB.out)) hb); clear BK11; clear HB; have BK11 := n0_; have HB := n1_; clear n0_ n1_; (try clear hb); (try clear hb2); (try clear hk); (try clear hi)))
      go_meet
      case rel => exact ⟨_, (true), (by first | rfl | (simp; done) | (simp [*]; done)), H', ⟨by first | omega | exact Nat.le_refl _⟩, ⟨by (with_reducible repeat (first | refine blk_drewN ?_ _ | refine blk_drew ?_ | refine blk_alloc ?_ _)); exact BK11.out⟩, ⟨by repeat (first | (with_reducible first | exact HB.out | apply below_alloc | apply pw_below_drewN | apply below_drew1 | refine below_set ?_ GE11.out) | exact HB.out)⟩⟩
     ·rw [if_neg c15] at H
      have c15b0 : decide (a1 < 0) = false := decide_eq_false c15
      clear c15
      (first | rw [c15b0] | (simp only [i64_w, i32_w]; rw [c15b0]) | skip)
      by_cases c18 : a2 < 0
      ·rw [if_pos c18] at H
       have c18b0 : decide (a2 < 0) = true := decide_eq_true c18
       clear c18
       have H' := Aside0.mk H
       clear H
       have hcz19_0 : w10.cell? ⟨gb11, 0, none⟩ = some (.slice A0_0 l0_0.length c0_0) := (blk_cell BK11.out 0).trans rfl
       have hcz19_1 : w10.cell? ⟨gb11, 1, none⟩ = some (.slice A0_1 l0_1.length c0_1) := (blk_cell BK11.out 1).trans rfl
       have hcz19_2 : w10.cell? ⟨gb11, 2, none⟩ = some (.slice A0_2 l0_2.length c0_2) := (blk_cell BK11.out 2).trans rfl
       have hfz19_0 := blk_frozen BK11.out 0
       have hfz19_1 := blk_frozen BK11.out 1
       have hfz19_2 := blk_frozen BK11.out 2
       go_wp2_with (first | (go_at_call 41; (with_reducible refine (memo_May.calls _ _ l0_0 _ _ l0_1 _ _ l0_2 true _ ?side1 ?side2 ?side3 ?side4 ?side5 ?side6 A13.out).mono ?_); (case side1 => repeat (first | exact (Kd.C_below HR0_0.out HB.out) | (with_reducible refine Kd.C_alloc ?_ _) | (with_reducible refine Kd.C_drewN ?_ _) | (with_reducible refine Kd.C_drew ?_))); (case side2 => exact HC0_0.out); (case side3 => repeat (first | exact (Kd.C_below HR0_1.out HB.out) | (with_reducible refine Kd.C_alloc ?_ _) | (with_reducible refine Kd.C_drewN ?_ _) | (with_reducible refine Kd.C_drew ?_))); (case side4 => exact HC0_1.out); (case side5 => repeat (first | exact (Kd.C_below HR0_2.out HB.out) | (with_reducible refine Kd.C_alloc ?_ _) | (with_reducible refine Kd.C_drewN ?_ _) | (with_reducible refine Kd.C_drew ?_))); (case side6 => exact HC0_2.out); rintro e w20 ⟨rfl, hb⟩; have n0_ := Aside0.mk (blk_below (g := gb11) (o := .cells #[.slice A0_0 l0_0.length c0_0, .slice A0_1 l0_1.length c0_1, .slice A0_2 l0_2.length c0_2] 38 (0, 0)) (by (with_reducible repeat (first | refine blk_drewN ?_ _ | refine blk_drew ?_ | refine blk_alloc ?_ _)); exact BK11.out) hb); have n1_ := Aside0.mk (below_step (by repeat (first | (with_reducible first | exact HB.out | apply below_alloc | apply pw_below_drewN | apply below_drew1 | refine below_set ?_ GE11.out) | exact HB.out)) hb); clear BK11; clear HB; have BK11 := n0_; have HB := n1_; clear n0_ n1_; (try clear hb); (try clear hb2); (try clear hk); (try clear hi)))
       go_meet
       case rel => exact ⟨_, (true), (by first | rfl | (simp; done) | (simp [*]; done)), H', ⟨by first | omega | exact Nat.le_refl _⟩, ⟨by (with_reducible repeat (first | refine blk_drewN ?_ _ | refine blk_drew ?_ | refine blk_alloc ?_ _)); exact BK11.out⟩, ⟨by repeat (first | (with_reducible first | exact HB.out | apply below_alloc | apply pw_below_drewN | apply below_drew1 | refine below_set ?_ GE11.out) | exact HB.out)⟩⟩
      ·rw [if_neg c18] at H
       have c18b0 : decide (a2 < 0) = false := decide_eq_false c18
       clear c18
       by_cases c21 : a1 ≥ (l0_0.length : Int)
       ·rw [if_pos c21] at H
        have c21b0 : decide ((l0_0.length : Int) ≤ a1) = true := decide_eq_true c21
        clear c21
        have H' := Aside0.mk H
        clear H
        have hcz22_0 : w10.cell? ⟨gb11, 0, none⟩ = some (.slice A0_0 l0_0.length c0_0) := (blk_cell BK11.out 0).trans rfl
        have hcz22_1 : w10.cell? ⟨gb11, 1, none⟩ = some (.slice A0_1 l0_1.length c0_1) := (blk_cell BK11.out 1).trans rfl
        have hcz22_2 : w10.cell? ⟨gb11, 2, none⟩ = some (.slice A0_2 l0_2.length c0_2) := (blk_cell BK11.out 2).trans rfl
        have hfz22_0 := blk_frozen BK11.out 0
        have hfz22_1 := blk_frozen BK11.out 1
        have hfz22_2 := blk_frozen BK11.out 2
        go_wp2_with (first | (go_at_call 41; (with_reducible refine (memo_May.calls _ _ l0_0 _ _ l0_1 _ _ l0_2 true _ ?side1 ?side2 ?side3 ?side4 ?side5 ?side6 A13.out).mono ?_); (case side1 => repeat (first | exact (Kd.C_below HR0_0.out HB.out) | (with_reducible refine Kd.C_alloc ?_ _) | (with_reducible refine Kd.C_drewN ?_ _) | (with_reducible refine Kd.C_drew ?_))); (case side2 => exact HC0_0.out); (case side3 => repeat (first | exact (Kd.C_below HR0_1.out HB.out) | (with_reducible refine Kd.C_alloc ?_ _) | (with_reducible refine Kd.C_drewN ?_ _) | (with_reducible refine Kd.C_drew ?_))); (case side4 => exact HC0_1.out); (case side5 => repeat (first | exact (Kd.C_below HR0_2.out HB.out) | (with_reducible refine Kd.C_alloc ?_ _) | (with_reducible refine Kd.C_drewN ?_ _) | (with_reducible refine Kd.C_drew ?_))); (case side6 => exact HC0_2.out); rintro e w23 ⟨rfl, hb⟩; have n0_ := Aside0.mk (blk_below (g := gb11) (o := .cells #[.slice A0_0 l0_0.length c0_0, .slice A0_1 l0_1.length c0_1, .slice A0_2 l0_2.length c0_2] 38 (0, 0)) (by (with_reducible repeat (first | refine blk_drewN ?_ _ | refine blk_drew ?_ | refine blk_alloc ?_ _)); exact BK11.out) hb); have n1_ := Aside0.mk (below_step (by repeat (first | (with_reducible first | exact HB.out | apply below_alloc | apply pw_below_drewN | apply below_drew1 | refine below_set ?_ GE11.out) | exact HB.out)) hb); clear BK11; clear HB; have BK11 := n0_; have HB := n1_; clear n0_ n1_; (try clear hb); (try clear hb2); (try clear hk); (try clear hi); have hcz24_0 : w23.cell? ⟨gb11, 0, none⟩ = some (.slice A0_0 l0_0.length c0_0) := (blk_cell BK11.out 0).trans rfl; have hcz24_1 : w23.cell? ⟨gb11, 1, none⟩ = some (.slice A0_1 l0_1.length c0_1) := (blk_cell BK11.out 1).trans rfl; have hcz24_2 : w23.cell? ⟨gb11, 2, none⟩ = some (.slice A0_2 l0_2.length c0_2) := (blk_cell BK11.out 2).trans rfl; have hfz24_0 := blk_frozen BK11.out 0; have hfz24_1 := blk_frozen BK11.out 1; have hfz24_2 := blk_frozen BK11.out 2))
        go_meet
        case rel => exact ⟨_, (true), (by first | rfl | (simp; done) | (simp [*]; done)), H', ⟨by first | omega | exact Nat.le_refl _⟩, ⟨by (with_reducible repeat (first | refine blk_drewN ?_ _ | refine blk_drew ?_ | refine blk_alloc ?_ _)); exact BK11.out⟩, ⟨by repeat (first | (with_reducible first | exact HB.out | apply below_alloc | apply pw_below_drewN | apply below_drew1 | refine below_set ?_ GE11.out) | exact HB.out)⟩⟩
       ·rw [if_neg c21] at H
        have c21b0 : decide ((l0_0.length : Int) ≤ a1) = false := decide_eq_false c21
        clear c21
        have H' := Aside0.mk H
        clear H
        have hcz25_0 : w10.cell? ⟨gb11, 0, none⟩ = some (.slice A0_0 l0_0.length c0_0) := (blk_cell BK11.out 0).trans rfl
        have hcz25_1 : w10.cell? ⟨gb11, 1, none⟩ = some (.slice A0_1 l0_1.length c0_1) := (blk_cell BK11.out 1).trans rfl
        have hcz25_2 : w10.cell? ⟨gb11, 2, none⟩ = some (.slice A0_2 l0_2.length c0_2) := (blk_cell BK11.out 2).trans rfl
        have hfz25_0 := blk_frozen BK11.out 0
        have hfz25_1 := blk_frozen BK11.out 1
        have hfz25_2 := blk_frozen BK11.out 2
        go_wp2_with (first | (go_at_call 41; (with_reducible refine (memo_May.calls _ _ l0_0 _ _ l0_1 _ _ l0_2 true _ ?side1 ?side2 ?side3 ?side4 ?side5 ?side6 A13.out).mono ?_); (case side1 => repeat (first | exact (Kd.C_below HR0_0.out HB.out) | (with_reducible refine Kd.C_alloc ?_ _) | (with_reducible refine Kd.C_drewN ?_ _) | (with_reducible refine Kd.C_drew ?_))); (case side2 => exact HC0_0.out); (case side3 => repeat (first | exact (Kd.C_below HR0_1.out HB.out) | (with_reducible refine Kd.C_alloc ?_ _) | (with_reducible refine Kd.C_drewN ?_ _) | (with_reducible refine Kd.C_drew ?_))); (case side4 => exact HC0_1.out); (case side5 => repeat (first | exact (Kd.C_below HR0_2.out HB.out) | (with_reducible refine Kd.C_alloc ?_ _) | (with_reducible refine Kd.C_drewN ?_ _) | (with_reducible refine Kd.C_drew ?_))); (case side6 => exact HC0_2.out); rintro e w26 ⟨rfl, hb⟩; have n0_ := Aside0.mk (blk_below (g := gb11) (o := .cells #[.slice A0_0 l0_0.length c0_0, .slice A0_1 l0_1.length c0_1, .slice A0_2 l0_2.length c0_2] 38 (0, 0)) (by (with_reducible repeat (first | refine blk_drewN ?_ _ | refine blk_drew ?_ | refine blk_alloc ?_ _)); exact BK11.out) hb); have n1_ := Aside0.mk (below_step (by repeat (first | (with_reducible first | exact HB.out | apply below_alloc | apply pw_below_drewN | apply below_drew1 | refine below_set ?_ GE11.out) | exact HB.out)) hb); clear BK11; clear HB; have BK11 := n0_; have HB := n1_; clear n0_ n1_; (try clear hb); (try clear hb2); (try clear hk); (try clear hi); have hcz27_0 : w26.cell? ⟨gb11, 0, none⟩ = some (.slice A0_0 l0_0.length c0_0) := (blk_cell BK11.out 0).trans rfl; have hcz27_1 : w26.cell? ⟨gb11, 1, none⟩ = some (.slice A0_1 l0_1.length c0_1) := (blk_cell BK11.out 1).trans rfl; have hcz27_2 : w26.cell? ⟨gb11, 2, none⟩ = some (.slice A0_2 l0_2.length c0_2) := (blk_cell BK11.out 2).trans rfl; have hfz27_0 := blk_frozen BK11.out 0; have hfz27_1 := blk_frozen BK11.out 1; have hfz27_2 := blk_frozen BK11.out 2))
        go_meet
        case rel => exact ⟨_, (decide (a2 ≥ (l0_0.length : Int))), (by first | rfl | (simp; done) | (simp [*]; done)), H', ⟨by first | omega | exact Nat.le_refl _⟩, ⟨by (with_reducible repeat (first | refine blk_drewN ?_ _ | refine blk_drew ?_ | refine blk_alloc ?_ _)); exact BK11.out⟩, ⟨by repeat (first | (with_reducible first | exact HB.out | apply below_alloc | apply pw_below_drewN | apply below_drew1 | refine below_set ?_ GE11.out) | exact HB.out)⟩⟩
    ·replace c14 := Bool.eq_false_iff.mpr c14
     subst c14
     have H1 : (roadbooklaw16_MemoOf.j0 k a1 a2 true true l0_0 l0_1 l0_2) = some r := by rw [if_neg (show ¬ (false = true) by decide)] at H; exact H
     clear H
     have H := H1
     clear H1
     have H' := Aside0.mk H
     clear H
     have hcz28_0 : w10.cell? ⟨gb11, 0, none⟩ = some (.slice A0_0 l0_0.length c0_0) := (blk_cell BK11.out 0).trans rfl
     have hcz28_1 : w10.cell? ⟨gb11, 1, none⟩ = some (.slice A0_1 l0_1.length c0_1) := (blk_cell BK11.out 1).trans rfl
     have hcz28_2 : w10.cell? ⟨gb11, 2, none⟩ = some (.slice A0_2 l0_2.length c0_2) := (blk_cell BK11.out 2).trans rfl
     have hfz28_0 := blk_frozen BK11.out 0
     have hfz28_1 := blk_frozen BK11.out 1
     have hfz28_2 := blk_frozen BK11.out 2
     go_wp2_with (first | (go_at_call 41; (with_reducible refine (memo_May.calls _ _ l0_0 _ _ l0_1 _ _ l0_2 false _ ?side1 ?side2 ?side3 ?side4 ?side5 ?side6 A13.out).mono ?_); (case side1 => repeat (first | exact (Kd.C_below HR0_0.out HB.out) | (with_reducible refine Kd.C_alloc ?_ _) | (with_reducible refine Kd.C_drewN ?_ _) | (with_reducible refine Kd.C_drew ?_))); (case side2 => exact HC0_0.out); (case side3 => repeat (first | exact (Kd.C_below HR0_1.out HB.out) | (with_reducible refine Kd.C_alloc ?_ _) | (with_reducible refine Kd.C_drewN ?_ _) | (with_reducible refine Kd.C_drew ?_))); (case side4 => exact HC0_1.out); (case side5 => repeat (first | exact (Kd.C_below HR0_2.out HB.out) | (with_reducible refine Kd.C_alloc ?_ _) | (with_reducible refine Kd.C_drewN ?_ _) | (with_reducible refine Kd.C_drew ?_))); (case side6 => exact HC0_2.out); rintro e w29 ⟨rfl, hb⟩; have n0_ := Aside0.mk (blk_below (g := gb11) (o := .cells #[.slice A0_0 l0_0.length c0_0, .slice A0_1 l0_1.length c0_1, .slice A0_2 l0_2.length c0_2] 38 (0, 0)) (by (with_reducible repeat (first | refine blk_drewN ?_ _ | refine blk_drew ?_ | refine blk_alloc ?_ _)); exact BK11.out) hb); have n1_ := Aside0.mk (below_step (by repeat (first | (with_reducible first | exact HB.out | apply below_alloc | apply pw_below_drewN | apply below_drew1 | refine below_set ?_ GE11.out) | exact HB.out)) hb); clear BK11; clear HB; have BK11 := n0_; have HB := n1_; clear n0_ n1_; (try clear hb); (try clear hb2); (try clear hk); (try clear hi)))
     go_meet
     case rel => exact ⟨_, (true), (by first | rfl | (simp; done) | (simp [*]; done)), H', ⟨by first | omega | exact Nat.le_refl _⟩, ⟨by (with_reducible repeat (first | refine blk_drewN ?_ _ | refine blk_drew ?_ | refine blk_alloc ?_ _)); exact BK11.out⟩, ⟨by repeat (first | (with_reducible first | exact HB.out | apply below_alloc | apply pw_below_drewN | apply below_drew1 | refine below_set ?_ GE11.out) | exact HB.out)⟩⟩
   ·replace c12 := Bool.eq_false_iff.mpr c12
    subst c12
    have H1 : (roadbooklaw16_MemoOf.j0 k a1 a2 true true l0_0 l0_1 l0_2) = some r := by rw [if_neg (show ¬ (false = true) by decide)] at H; exact H
    clear H
    have H := H1
    clear H1
    have H' := Aside0.mk H
    clear H
    go_wp2
    go_meet
    case rel => exact ⟨_, (true), (by first | rfl | (simp; done) | (simp [*]; done)), H', ⟨by first | omega | exact Nat.le_refl _⟩, ⟨by (with_reducible repeat (first | refine blk_drewN ?_ _ | refine blk_drew ?_ | refine blk_alloc ?_ _)); exact BK11.out⟩, ⟨by repeat (first | (with_reducible first | exact HB.out | apply below_alloc | apply pw_below_drewN | apply below_drew1 | refine below_set ?_ GE11.out) | exact HB.out)⟩⟩
  ·replace c11 := Bool.eq_false_iff.mpr c11
   subst c11
   have H1 : (roadbooklaw16_MemoOf.j0 k a1 a2 false true l0_0 l0_1 l0_2) = some r := by rw [if_neg (show ¬ (false = true) by decide)] at H; exact H
   clear H
   have H := H1
   clear H1
   have H' := Aside0.mk H
   clear H
   go_wp2
   go_meet
   case rel => exact ⟨_, (true), (by first | rfl | (simp; done) | (simp [*]; done)), H', ⟨by first | omega | exact Nat.le_refl _⟩, ⟨by (with_reducible repeat (first | refine blk_drewN ?_ _ | refine blk_drew ?_ | refine blk_alloc ?_ _)); exact BK11.out⟩, ⟨by repeat (first | (with_reducible first | exact HB.out | apply below_alloc | apply pw_below_drewN | apply below_drew1 | refine below_set ?_ GE11.out) | exact HB.out)⟩⟩
 case rest =>
  clear HC6
  try clear c1
  try clear c2
  try clear p2
  try clear c3
  try clear c10
  try clear c11
  try clear c12
  try clear c14
  try clear c15
  try clear c15b0
  try clear c18
  try clear c18b0
  try clear c21
  try clear c21b0
  try clear hcz16_0
  try clear hcz16_1
  try clear hcz16_2
  try clear hcz19_0
  try clear hcz19_1
  try clear hcz19_2
  try clear hcz22_0
  try clear hcz22_1
  try clear hcz22_2
  try clear hcz24_0
  try clear hcz24_1
  try clear hcz24_2
  try clear hcz25_0
  try clear hcz25_1
  try clear hcz25_2
  try clear hcz27_0
  try clear hcz27_1
  try clear hcz27_2
  try clear hcz28_0
  try clear hcz28_1
  try clear hcz28_2
  try clear hcz9_0
  try clear hcz9_1
  try clear hcz9_2
  try clear hfz16_0
  try clear hfz16_1
  try clear hfz16_2
  try clear hfz19_0
  try clear hfz19_1
  try clear hfz19_2
  try clear hfz22_0
  try clear hfz22_1
  try clear hfz22_2
  try clear hfz24_0
  try clear hfz24_1
  try clear hfz24_2
  try clear hfz25_0
  try clear hfz25_1
  try clear hfz25_2
  try clear hfz27_0
  try clear hfz27_1
  try clear hfz27_2
  try clear hfz28_0
  try clear hfz28_1
  try clear hfz28_2
  try clear hfz9_0
  try clear hfz9_1
  try clear hfz9_2
  obtain ⟨kq, x48_5, rfl, HA, HJ5, BK11, HB⟩ := hcut
  cases kq with
  | zero => exact absurd HA.out (by simp [roadbooklaw16_MemoOf.j0])
  | succ kj5 =>
   have H := HA.out
   clear HA
   simp only [roadbooklaw16_MemoOf.j0] at H
   by_cases c30 : x48_5 = true
   ·subst c30
    have H1 : (some t12) = some r := by rw [if_pos rfl] at H; exact H
    clear H
    have H := H1
    clear H1
    obtain rfl := Option.some.inj H
    go_wp2
    go_ret
    exact ⟨by first | rfl | (simp [errW_none, errW_some] <;> rfl) | (simp [*, errW_none, errW_some] <;> rfl), by repeat (first | (with_reducible first | exact HB.out | apply below_alloc | apply pw_below_drewN | apply below_drew1 | refine below_set ?_ GE11.out) | exact HB.out)⟩
   ·replace c30 := Bool.eq_false_iff.mpr c30
    subst c30
    have H1 : (if 0 ≤ a1 then (if a1 < (l0_1.length : Int) then ((memo_Of.f kj5 l0_0 l0_1 l0_2 (rd l0_1 a1)).bind fun t16 => (roadbooklaw16_MemoOf.l0 kj5 a1 a2 t16 0 0 l0_0 l0_1 l0_2)) else (none)) else (none)) = some r := by rw [if_neg (show ¬ (false = true) by decide)] at H; exact H
    clear H
    have H := H1
    clear H1
    by_cases c31 : 0 ≤ a1
    ·rw [if_pos c31] at H
     have c31b0 : decide (0 ≤ a1) = true := decide_eq_true c31
     clear c31
     by_cases c32 : a1 < (l0_1.length : Int)
     ·rw [if_pos c32] at H
      have c32b0 : decide (a1 < (l0_1.length : Int)) = true := decide_eq_true c32
      clear c32
      replace H := Option.bind_eq_some_iff.mp H
      obtain ⟨t16, A330, H⟩ := H
      replace H : (roadbooklaw16_MemoOf.l0 kj5 a1 a2 t16 0 0 l0_0 l0_1 l0_2) = some r := H
      have A33 := Aside0.mk A330
      clear A330
      have H' := Aside0.mk H
      clear H
      try go_wp2
      have n0_ := Aside0.mk (blk_drew BK11.out)
      have n1_ := Aside0.mk (below_drew1 HB.out)
      clear BK11
      clear HB
      have BK11 := n0_
      have HB := n1_
      clear n0_ n1_
      have p15 : 0 ≤ (a1 : Int) := of_decide_eq_true (by first | (with_reducible assumption) | assumption)
      have q15 : a1 < (l0_1.length : Int) := of_decide_eq_true (by first | (with_reducible assumption) | assumption)
      obtain ⟨ad15, e15, hx15_0⟩ := Kd.at_int HR0_1.out a1 p15 q15
      have hw15_0 := hx15_0
      cases e15
      replace hx15_0 := (HB.out.cell (World.block_lt_of_cell? w _ hx15_0)).trans hx15_0
      replace p15 := eq_true p15
      replace q15 := eq_true q15
      refine start_ (n := 8) (S := fun w' => w'.cell? ⟨gb11, 0, none⟩ = some (.slice A0_0 l0_0.length c0_0) ∧ w'.cell? ⟨gb11, 1, none⟩ = some (.slice (some ad15) l0_1.length c0_1) ∧ w'.cell? ⟨gb11, 2, none⟩ = some (.slice A0_2 l0_2.length c0_2) ∧ w'.cell? (ad15.add (a1).toNat) = some (.int .i64 (rd l0_1 a1))) (ds := []) #[false, false, false, false, false, false, false, false] (by kernel_rfl) rfl rfl ⟨(blk_cell BK11.out 0).trans rfl, (blk_cell BK11.out 1).trans rfl, (blk_cell BK11.out 2).trans rfl, ((HB.out.cell (World.block_lt_of_cell? w _ hw15_0)).trans hw15_0)⟩ (fun hHeld => ?_); refine with_tabW roadbooklaw16_MemoOf.tab5 roadbooklaw16_MemoOf.bits5 (fun HT_ HW_ => ?_)
      generalize wc.drew = w34 at BK11 HB hx15_0 hHeld ⊢
      refine pure_ (i := 1) (N := some 51) (v := ?_) (a' := ?_) #[false, true, false, false, false, false, false, false] rfl rfl (any_of HT_.out (by kernel_rfl)) (fun _ _ _ h => h) (Or.inl ⟨by rfl, ?_⟩) ?_ ?_
      rotate_left
      ·intro w'
       go_simp
       with_reducible rfl
      rotate_left
      ·simp only [Act.put, List.setIfInBounds_toArray, List.set_cons_zero, List.set_cons_succ, i64_w, i32_w]
       rfl
      refine pure_ (i := 3) (N := some 53) (v := ?_) (a' := ?_) #[false, true, false, true, false, false, false, false] rfl rfl (any_of HT_.out (by kernel_rfl)) (fun _ _ _ h => h) (Or.inl ⟨by rfl, ?_⟩) ?_ ?_
      rotate_left
      ·intro w'
       go_simp
       with_reducible rfl
      rotate_left
      ·simp only [Act.put, List.setIfInBounds_toArray, List.set_cons_zero, List.set_cons_succ, i64_w, i32_w]
       rfl
      refine take_ (i := 0) (N := some 50) (v := ?_) (a' := ?_) #[true, true, false, true, false, false, false, false] rfl rfl (take_ofW HT_.out HW_.out (by kernel_rfl)) (fun _ _ _ h => h) (Or.inl ⟨by rfl, ?_⟩) hHeld ?_ ?_
      rotate_left
      ·rintro w' ⟨s0, s1, s2, s3⟩
       go_simp
       with_reducible rfl
      rotate_left
      ·simp only [Act.put, List.setIfInBounds_toArray, List.set_cons_zero, List.set_cons_succ, i64_w, i32_w]
       rfl
      refine take_ (i := 2) (N := some 52) (v := ?_) (a' := ?_) #[true, true, true, true, false, false, false, false] rfl rfl (take_ofW HT_.out HW_.out (by kernel_rfl)) (fun _ _ _ h => h) (Or.inl ⟨by rfl, ?_⟩) hHeld ?_ ?_
      rotate_left
      ·rintro w' ⟨s0, s1, s2, s3⟩
       go_simp
       with_reducible rfl
      rotate_left
      ·simp only [Act.put, List.setIfInBounds_toArray, List.set_cons_zero, List.set_cons_succ, i64_w, i32_w]
       rfl
      refine pure_ (i := 4) (N := some 54) (v := ?_) (a' := ?_) #[true, true, true, true, true, false, false, false] rfl rfl (any_of HT_.out (by kernel_rfl)) (fun _ _ _ h => h) (Or.inl ⟨by rfl, ?_⟩) ?_ ?_
      rotate_left
      ·intro w'
       go_simp
       with_reducible rfl
      rotate_left
      ·simp only [Act.put, List.setIfInBounds_toArray, List.set_cons_zero, List.set_cons_succ, i64_w, i32_w]
       rfl
      refine take_ (i := 5) (N := some 55) (v := ?_) (a' := ?_) #[true, true, true, true, true, true, false, false] rfl rfl (take_ofW HT_.out HW_.out (by kernel_rfl)) (fun _ _ _ h => h) (Or.inl ⟨by rfl, ?_⟩) hHeld ?_ ?_
      rotate_left
      ·rintro w' ⟨s0, s1, s2, s3⟩
       go_simp
       with_reducible rfl
      rotate_left
      ·simp only [Act.put, List.setIfInBounds_toArray, List.set_cons_zero, List.set_cons_succ, i64_w, i32_w]
       rfl
      refine one_ (i := 6) (N := some 56) #[true, true, true, true, true, true, true, false] rfl rfl (one_of HT_.out (by kernel_rfl)) (by decide) (fun K hK => ?_)
      refine goes_ Try.func43 (by kernel_rfl) rfl #[.agg #[.slice A0_0 l0_0.length c0_0, .slice (some ad15) l0_1.length c0_1, .slice A0_2 l0_2.length c0_2], .int .i64 (rd l0_1 a1)] (by rfl) rfl rfl (by (try simp only [List.map_toArray, List.map_cons, List.map_nil]); first | done | rfl | (simp only [List.length_drop, List.length_take]; rfl)) ?_
      with_reducible refine (memo_Of.calls kj5 _ _ l0_0 _ _ l0_1 _ _ l0_2 (rd l0_1 a1) t16 _ ?side1 ?side2 ?side3 ?side4 ?side5 ?side6 A33.out).mono ?_
      (case side1 => repeat (first | exact (Kd.C_below HR0_0.out HB.out) | (with_reducible refine Kd.C_alloc ?_ _) | (with_reducible refine Kd.C_drewN ?_ _) | (with_reducible refine Kd.C_drew ?_)))
      (case side2 => exact HC0_0.out)
      (case side3 => repeat (first | exact (Kd.C_below HR0_1.out HB.out) | (with_reducible refine Kd.C_alloc ?_ _) | (with_reducible refine Kd.C_drewN ?_ _) | (with_reducible refine Kd.C_drew ?_)))
      (case side4 => exact HC0_1.out)
      (case side5 => repeat (first | exact (Kd.C_below HR0_2.out HB.out) | (with_reducible refine Kd.C_alloc ?_ _) | (with_reducible refine Kd.C_drewN ?_ _) | (with_reducible refine Kd.C_drew ?_)))
      (case side6 => exact HC0_2.out)
      rintro e w35 ⟨v17, rfl, ho0, hb⟩
      refine ⟨_, rfl, ?_⟩
      have n0_ := Aside0.mk (Kd.R_lower ho0 (below_size (by repeat (first | (with_reducible first | exact HB.out | apply below_alloc | apply pw_below_drewN | apply below_drew1 | refine below_set ?_ GE11.out) | exact HB.out))))
      have n1_ := Aside0.mk (blk_below (g := gb11) (o := .cells #[.slice A0_0 l0_0.length c0_0, .slice (some ad15) l0_1.length c0_1, .slice A0_2 l0_2.length c0_2] 38 (0, 0)) (by (with_reducible repeat (first | refine blk_drewN ?_ _ | refine blk_drew ?_ | refine blk_alloc ?_ _)); exact BK11.out) hb)
      have n2_ := Aside0.mk (below_step (by repeat (first | (with_reducible first | exact HB.out | apply below_alloc | apply pw_below_drewN | apply below_drew1 | refine below_set ?_ GE11.out) | exact HB.out)) hb)
      clear BK11
      clear HB
      have HO18 := n0_
      have BK11 := n1_
      have HB := n2_
      clear n0_ n1_ n2_
      (try clear hb)
      (try clear hb2)
      (try clear hk)
      (try clear hi)
      (try clear ho0)
      refine hK.out _ _ ⟨(blk_cell BK11.out 0).trans rfl, (blk_cell BK11.out 1).trans rfl, (blk_cell BK11.out 2).trans rfl, ((HB.out.cell (World.block_lt_of_cell? w _ hw15_0)).trans hw15_0)⟩ (fun hHeld => ?_)
      clear hK K
      refine norm_ (a' := ?_) ?_ ?_
      rotate_left
      ·show Act.put _ (some 56) _ = _
       simp only [Act.put, List.setIfInBounds_toArray, List.set_cons_zero, List.set_cons_succ, i64_w, i32_w]
       rfl
      refine pure_ (i := 7) (N := some 9) (v := ?_) (a' := ?_) #[true, true, true, true, true, true, true, true] rfl rfl (any_of HT_.out (by kernel_rfl)) (fun _ _ _ h => h) (Or.inl ⟨by rfl, ?_⟩) ?_ ?_
      rotate_left
      ·intro w'
       go_simp
       with_reducible rfl
      rotate_left
      ·simp only [Act.put, List.setIfInBounds_toArray, List.set_cons_zero, List.set_cons_succ, i64_w, i32_w]
       rfl
      refine done_ (done_of HT_.out (by kernel_rfl)) ?_
      try go_wp2
      go_loopg [10, 11] kj5 (fun kq v10 v11 w' => ∃ (x10_2 : Int) (x11_2 : Int), v10 = .int .i64 x10_2 ∧ v11 = .int .i64 x11_2 ∧ Aside0 (roadbooklaw16_MemoOf.l0 kq a1 a2 t16 x10_2 x11_2 l0_0 l0_1 l0_2 = some r) ∧ Aside0 (kq ≤ kj5) ∧ Aside0 (Kd.R (Kd.int .i64) 3 w' w.heap.size (fun _ => True) v17 t16) ∧ Aside0 (w'.heap[gb11]? = some (.cells #[(.slice A0_0 l0_0.length c0_0), (.slice (some ad15) l0_1.length c0_1), (.slice A0_2 l0_2.length c0_2)] 38 (0, 0))) ∧ Aside0 (Below w.heap.size w w'))
      case atStart => exact ⟨(0), (0), (by first | rfl | (simp; done) | (simp [*]; done)), (by first | rfl | (simp; done) | (simp [*]; done)), H', ⟨Nat.le_refl _⟩, ⟨by (with_reducible repeat (first | apply Kd.R_alloc | apply Kd.R_drewN | apply Kd.R_drew)); exact HO18.out⟩, ⟨by (with_reducible repeat (first | refine blk_drewN ?_ _ | refine blk_drew ?_ | refine blk_alloc ?_ _)); exact BK11.out⟩, ⟨by repeat (first | (with_reducible first | exact HB.out | apply below_alloc | apply pw_below_drewN | apply below_drew1 | refine below_set ?_ GE11.out) | exact HB.out)⟩⟩
      case round =>
       clear H'
       try clear c1
       try clear p1
       try clear q1
       try clear hx1
       try clear c2
       try clear p2
       try clear c3
       try clear c4
       try clear c10
       try clear c11
       try clear c12
       try clear c14
       try clear c15
       try clear c15b0
       try clear p15
       try clear q15
       try clear hx15
       try clear c18
       try clear c18b0
       try clear c21
       try clear c21b0
       try clear c30
       try clear c31
       try clear c31b0
       try clear c32
       try clear c32b0
       try clear hcz16_0
       try clear hcz16_1
       try clear hcz16_2
       try clear hcz19_0
       try clear hcz19_1
       try clear hcz19_2
       try clear hcz22_0
       try clear hcz22_1
       try clear hcz22_2
       try clear hcz24_0
       try clear hcz24_1
       try clear hcz24_2
       try clear hcz25_0
       try clear hcz25_1
       try clear hcz25_2
       try clear hcz27_0
       try clear hcz27_1
       try clear hcz27_2
       try clear hcz28_0
       try clear hcz28_1
       try clear hcz28_2
       try clear hcz9_0
       try clear hcz9_1
       try clear hcz9_2
       try clear hfz16_0
       try clear hfz16_1
       try clear hfz16_2
       try clear hfz19_0
       try clear hfz19_1
       try clear hfz19_2
       try clear hfz22_0
       try clear hfz22_1
       try clear hfz22_2
       try clear hfz24_0
       try clear hfz24_1
       try clear hfz24_2
       try clear hfz25_0
       try clear hfz25_1
       try clear hfz25_2
       try clear hfz27_0
       try clear hfz27_1
       try clear hfz27_2
       try clear hfz28_0
       try clear hfz28_1
       try clear hfz28_2
       try clear hfz9_0
       try clear hfz9_1
       try clear hfz9_2
       try clear hx15_0
       try clear p15
       try clear p2
       try clear q15
       obtain ⟨x10_2, x11_2, rfl, rfl, HA, HK2, HO_9, BK11, HB⟩ := hrel
       cases gk with
       | zero => exact absurd HA.out (by simp [roadbooklaw16_MemoOf.l0])
       | succ k2 =>
        have H := HA.out
        clear HA
        simp only [roadbooklaw16_MemoOf.l0] at H
        by_cases c36 : x11_2 < (t16.length : Int)
        ·rw [if_pos c36] at H
         have c36b0 : decide (x11_2 < (t16.length : Int)) = true := decide_eq_true c36
         clear c36
         have HC37 := Aside0.mk H
         clear H
         obtain ⟨Ao38, co38, eo38⟩ := Kd.R_slice HO_9.out
         subst eo38
         go_upto_region 10 with (fail)
         go_cut [97] (fun v97 wc => ∃ (kq : Nat) (x97_36 : Bool), v97 = .bool x97_36 ∧ Aside0 (roadbooklaw16_MemoOf.j2 kq a1 a2 t16 x10_2 x11_2 x97_36 l0_0 l0_1 l0_2 = some r) ∧ Aside0 (kq ≤ k2) ∧ Aside0 (Kd.R (Kd.int .i64) 3 wc w.heap.size (fun _ => True) (.slice Ao38 t16.length co38) t16) ∧ Aside0 (wc.heap[gb11]? = some (.cells #[(.slice A0_0 l0_0.length c0_0), (.slice (some ad15) l0_1.length c0_1), (.slice A0_2 l0_2.length c0_2)] 38 (0, 0))) ∧ Aside0 (Below w.heap.size w wc))
         case first =>
          have H := HC37.out
          clear HC37
          by_cases c39 : 0 ≤ x11_2
          ·rw [if_pos c39] at H
           have c39b0 : decide (0 ≤ x11_2) = true := decide_eq_true c39
           clear c39
           (first | rw [c39b0] | (simp only [i64_w, i32_w]; rw [c39b0]) | skip)
           by_cases c40 : (rd t16 x11_2) < 0
           ·rw [if_pos c40] at H
            have c40b0 : decide ((rd t16 x11_2) < 0) = true := decide_eq_true c40
            clear c40
            have H' := Aside0.mk H
            clear H
            try go_wp2
            have n0_ := Aside0.mk (Kd.R_drew HO_9.out)
            have n1_ := Aside0.mk (blk_drew BK11.out)
            have n2_ := Aside0.mk (below_drew1 HB.out)
            clear HO_9
            clear BK11
            clear HB
            have HO_9 := n0_
            have BK11 := n1_
            have HB := n2_
            clear n0_ n1_ n2_
            have p19 : 0 ≤ (x11_2 : Int) := of_decide_eq_true (by first | (with_reducible assumption) | assumption)
            have q19 : x11_2 < (t16.length : Int) := of_decide_eq_true (by first | (with_reducible assumption) | assumption)
            obtain ⟨ad19, e19, hx19_0⟩ := Kd.at_int (Kd.R_reads' HO_9.out).2.2 x11_2 p19 q19
            cases e19
            replace p19 := eq_true p19
            replace q19 := eq_true q19
            refine start_ (n := 35) (S := fun w' => w'.cell? (ad19.add (x11_2).toNat) = some (.int .i64 (rd t16 x11_2))) (ds := []) #[false, false, false, false, false, false, false, false, false, false, false, false, false, false, false, false, false, false, false, false, false, false, false, false, false, false, false, false, false, false, false, false, false, false, false] (by kernel_rfl) rfl rfl (hx19_0) (fun hHeld => ?_); refine with_tabW roadbooklaw16_MemoOf.tab10 roadbooklaw16_MemoOf.bits10 (fun HT_ HW_ => ?_)
            generalize wr.drew = w41 at HO_9 BK11 HB hx19_0 hHeld ⊢
            refine pure_ (i := 0) (N := some 63) (v := ?_) (a' := ?_) #[true, false, false, false, false, false, false, false, false, false, false, false, false, false, false, false, false, false, false, false, false, false, false, false, false, false, false, false, false, false, false, false, false, false, false] rfl rfl (any_of HT_.out (by kernel_rfl)) (fun _ _ _ h => h) (Or.inl ⟨by rfl, ?_⟩) ?_ ?_
            rotate_left
            ·intro w'
             go_simp
             with_reducible rfl
            rotate_left
            ·simp only [Act.put, List.setIfInBounds_toArray, List.set_cons_zero, List.set_cons_succ, i64_w, i32_w]
             rfl
            refine pure_ (i := 1) (N := some 64) (v := ?_) (a' := ?_) #[true, true, false, false, false, false, false, false, false, false, false, false, false, false, false, false, false, false, false, false, false, false, false, false, false, false, false, false, false, false, false, false, false, false, false] rfl rfl (any_of HT_.out (by kernel_rfl)) (fun _ _ _ h => h) (Or.inl ⟨by rfl, ?_⟩) ?_ ?_
            rotate_left
            ·intro w'
             go_simp
             with_reducible rfl
            rotate_left
            ·simp only [Act.put, List.setIfInBounds_toArray, List.set_cons_zero, List.set_cons_succ, i64_w, i32_w]
             rfl
            refine pure_ (i := 2) (N := some 65) (v := ?_) (a' := ?_) #[true, true, true, false, false, false, false, false, false, false, false, false, false, false, false, false, false, false, false, false, false, false, false, false, false, false, false, false, false, false, false, false, false, false, false] rfl rfl (any_of HT_.out (by kernel_rfl)) (fun _ _ _ h => h) (Or.inl ⟨by rfl, ?_⟩) ?_ ?_
            rotate_left
            ·intro w'
             go_simp
             with_reducible rfl
            rotate_left
            ·simp only [Act.put, List.setIfInBounds_toArray, List.set_cons_zero, List.set_cons_succ, i64_w, i32_w]
             rfl
            refine take_ (i := 3) (N := some 66) (v := ?_) (a' := ?_) #[true, true, true, true, false, false, false, false, false, false, false, false, false, false, false, false, false, false, false, false, false, false, false, false, false, false, false, false, false, false, false, false, false, false, false] rfl rfl (take_ofW HT_.out HW_.out (by kernel_rfl)) (fun _ _ _ h => h) (Or.inl ⟨by rfl, ?_⟩) hHeld ?_ ?_
            rotate_left
            ·intro w' s0
             go_simp
             with_reducible rfl
            rotate_left
            ·simp only [Act.put, List.setIfInBounds_toArray, List.set_cons_zero, List.set_cons_succ, i64_w, i32_w]
             rfl
            refine pure_ (i := 4) (N := some 67) (v := ?_) (a' := ?_) #[true, true, true, true, true, false, false, false, false, false, false, false, false, false, false, false, false, false, false, false, false, false, false, false, false, false, false, false, false, false, false, false, false, false, false] rfl rfl (any_of HT_.out (by kernel_rfl)) (fun _ _ _ h => h) (Or.inl ⟨by rfl, ?_⟩) ?_ ?_
            rotate_left
            ·intro w'
             go_simp
             with_reducible rfl
            rotate_left
            ·simp only [Act.put, List.setIfInBounds_toArray, List.set_cons_zero, List.set_cons_succ, i64_w, i32_w]
             rfl
            refine pure_ (i := 5) (N := some 68) (v := ?_) (a' := ?_) #[true, true, true, true, true, true, false, false, false, false, false, false, false, false, false, false, false, false, false, false, false, false, false, false, false, false, false, false, false, false, false, false, false, false, false] rfl rfl (any_of HT_.out (by kernel_rfl)) (fun _ _ _ h => h) (Or.inl ⟨by rfl, ?_⟩) ?_ ?_
            rotate_left
            ·intro w'
             go_simp
             with_reducible rfl
            rotate_left
            ·simp only [Act.put, List.setIfInBounds_toArray, List.set_cons_zero, List.set_cons_succ, i64_w, i32_w]
             rfl
            refine pure_ (i := 6) (N := some 69) (v := undef) (a' := ?_) #[true, true, true, true, true, true, true, false, false, false, false, false, false, false, false, false, false, false, false, false, false, false, false, false, false, false, false, false, false, false, false, false, false, false, false] rfl rfl (any_of HT_.out (by kernel_rfl)) (fun _ _ _ h => h) (Or.inr ⟨by rfl, rfl⟩) ?_ ?_
            rotate_left
            ·simp only [Act.put, List.setIfInBounds_toArray, List.set_cons_zero, List.set_cons_succ, i64_w, i32_w]
             rfl
            refine pure_ (i := 7) (N := some 70) (v := undef) (a' := ?_) #[true, true, true, true, true, true, true, true, false, false, false, false, false, false, false, false, false, false, false, false, false, false, false, false, false, false, false, false, false, false, false, false, false, false, false] rfl rfl (any_of HT_.out (by kernel_rfl)) (fun _ _ _ h => h) (Or.inr ⟨by rfl, rfl⟩) ?_ ?_
            rotate_left
            ·simp only [Act.put, List.setIfInBounds_toArray, List.set_cons_zero, List.set_cons_succ, i64_w, i32_w]
             rfl
            refine pure_ (i := 8) (N := some 71) (v := undef) (a' := ?_) #[true, true, true, true, true, true, true, true, true, false, false, false, false, false, false, false, false, false, false, false, false, false, false, false, false, false, false, false, false, false, false, false, false, false, false] rfl rfl (any_of HT_.out (by kernel_rfl)) (fun _ _ _ h => h) (Or.inr ⟨by rfl, rfl⟩) ?_ ?_
            rotate_left
            ·simp only [Act.put, List.setIfInBounds_toArray, List.set_cons_zero, List.set_cons_succ, i64_w, i32_w]
             rfl
            refine pure_ (i := 9) (N := some 72) (v := undef) (a' := ?_) #[true, true, true, true, true, true, true, true, true, true, false, false, false, false, false, false, false, false, false, false, false, false, false, false, false, false, false, false, false, false, false, false, false, false, false] rfl rfl (any_of HT_.out (by kernel_rfl)) (fun _ _ _ h => h) (Or.inr ⟨by rfl, rfl⟩) ?_ ?_
            rotate_left
            ·simp only [Act.put, List.setIfInBounds_toArray, List.set_cons_zero, List.set_cons_succ, i64_w, i32_w]
             rfl
            refine pure_ (i := 10) (N := some 73) (v := undef) (a' := ?_) #[true, true, true, true, true, true, true, true, true, true, true, false, false, false, false, false, false, false, false, false, false, false, false, false, false, false, false, false, false, false, false, false, false, false, false] rfl rfl (any_of HT_.out (by kernel_rfl)) (fun _ _ _ h => h) (Or.inr ⟨by rfl, rfl⟩) ?_ ?_
            rotate_left
            ·simp only [Act.put, List.setIfInBounds_toArray, List.set_cons_zero, List.set_cons_succ, i64_w, i32_w]
             rfl
            refine pure_ (i := 11) (N := some 74) (v := undef) (a' := ?_) #[true, true, true, true, true, true, true, true, true, true, true, true, false, false, false, false, false, false, false, false, false, false, false, false, false, false, false, false, false, false, false, false, false, false, false] rfl rfl (any_of HT_.out (by kernel_rfl)) (fun _ _ _ h => h) (Or.inr ⟨by rfl, rfl⟩) ?_ ?_
            rotate_left
            ·simp only [Act.put, List.setIfInBounds_toArray, List.set_cons_zero, List.set_cons_succ, i64_w, i32_w]
             rfl
            refine pure_ (i := 12) (N := some 75) (v := undef) (a' := ?_) #[true, true, true, true, true, true, true, true, true, true, true, true, true, false, false, false, false, false, false, false, false, false, false, false, false, false, false, false, false, false, false, false, false, false, false] rfl rfl (any_of HT_.out (by kernel_rfl)) (fun _ _ _ h => h) (Or.inr ⟨by rfl, rfl⟩) ?_ ?_
            rotate_left
            ·simp only [Act.put, List.setIfInBounds_toArray, List.set_cons_zero, List.set_cons_succ, i64_w, i32_w]
             rfl
            refine pure_ (i := 13) (N := some 76) (v := undef) (a' := ?_) #[true, true, true, true, true, true, true, true, true, true, true, true, true, true, false, false, false, false, false, false, false, false, false, false, false, false, false, false, false, false, false, false, false, false, false] rfl rfl (any_of HT_.out (by kernel_rfl)) (fun _ _ _ h => h) (Or.inr ⟨by rfl, rfl⟩) ?_ ?_
            rotate_left
            ·simp only [Act.put, List.setIfInBounds_toArray, List.set_cons_zero, List.set_cons_succ, i64_w, i32_w]
             rfl
            refine pure_ (i := 14) (N := some 77) (v := ?_) (a' := ?_) #[true, true, true, true, true, true, true, true, true, true, true, true, true, true, true, false, false, false, false, false, false, false, false, false, false, false, false, false, false, false, false, false, false, false, false] rfl rfl (any_of HT_.out (by kernel_rfl)) (fun _ _ _ h => h) (Or.inl ⟨by rfl, ?_⟩) ?_ ?_
            rotate_left
            ·intro w'
             go_simp
             with_reducible rfl
            rotate_left
            ·simp only [Act.put, List.setIfInBounds_toArray, List.set_cons_zero, List.set_cons_succ, i64_w, i32_w]
             rfl
            refine pure_ (i := 15) (N := some 78) (v := ?_) (a' := ?_) #[true, true, true, true, true, true, true, true, true, true, true, true, true, true, true, true, false, false, false, false, false, false, false, false, false, false, false, false, false, false, false, false, false, false, false] rfl rfl (any_of HT_.out (by kernel_rfl)) (fun _ _ _ h => h) (Or.inl ⟨by rfl, ?_⟩) ?_ ?_
            rotate_left
            ·intro w'
             go_simp
             with_reducible rfl
            rotate_left
            ·simp only [Act.put, List.setIfInBounds_toArray, List.set_cons_zero, List.set_cons_succ, i64_w, i32_w]
             rfl
            refine pure_ (i := 16) (N := some 79) (v := undef) (a' := ?_) #[true, true, true, true, true, true, true, true, true, true, true, true, true, true, true, true, true, false, false, false, false, false, false, false, false, false, false, false, false, false, false, false, false, false, false] rfl rfl (any_of HT_.out (by kernel_rfl)) (fun _ _ _ h => h) (Or.inr ⟨by rfl, rfl⟩) ?_ ?_
            rotate_left
            ·simp only [Act.put, List.setIfInBounds_toArray, List.set_cons_zero, List.set_cons_succ, i64_w, i32_w]
             rfl
            refine pure_ (i := 17) (N := some 80) (v := undef) (a' := ?_) #[true, true, true, true, true, true, true, true, true, true, true, true, true, true, true, true, true, true, false, false, false, false, false, false, false, false, false, false, false, false, false, false, false, false, false] rfl rfl (any_of HT_.out (by kernel_rfl)) (fun _ _ _ h => h) (Or.inr ⟨by rfl, rfl⟩) ?_ ?_
            rotate_left
            ·simp only [Act.put, List.setIfInBounds_toArray, List.set_cons_zero, List.set_cons_succ, i64_w, i32_w]
             rfl
            refine pure_ (i := 18) (N := some 81) (v := undef) (a' := ?_) #[true, true, true, true, true, true, true, true, true, true, true, true, true, true, true, true, true, true, true, false, false, false, false, false, false, false, false, false, false, false, false, false, false, false, false] rfl rfl (any_of HT_.out (by kernel_rfl)) (fun _ _ _ h => h) (Or.inr ⟨by rfl, rfl⟩) ?_ ?_
            rotate_left
            ·simp only [Act.put, List.setIfInBounds_toArray, List.set_cons_zero, List.set_cons_succ, i64_w, i32_w]
             rfl
            refine pure_ (i := 19) (N := some 82) (v := undef) (a' := ?_) #[true, true, true, true, true, true, true, true, true, true, true, true, true, true, true, true, true, true, true, true, false, false, false, false, false, false, false, false, false, false, false, false, false, false, false] rfl rfl (any_of HT_.out (by kernel_rfl)) (fun _ _ _ h => h) (Or.inr ⟨by rfl, rfl⟩) ?_ ?_
            rotate_left
            ·simp only [Act.put, List.setIfInBounds_toArray, List.set_cons_zero, List.set_cons_succ, i64_w, i32_w]
             rfl
            refine pure_ (i := 20) (N := some 83) (v := undef) (a' := ?_) #[true, true, true, true, true, true, true, true, true, true, true, true, true, true, true, true, true, true, true, true, true, false, false, false, false, false, false, false, false, false, false, false, false, false, false] rfl rfl (any_of HT_.out (by kernel_rfl)) (fun _ _ _ h => h) (Or.inr ⟨by rfl, rfl⟩) ?_ ?_
            rotate_left
            ·simp only [Act.put, List.setIfInBounds_toArray, List.set_cons_zero, List.set_cons_succ, i64_w, i32_w]
             rfl
            refine pure_ (i := 21) (N := some 84) (v := undef) (a' := ?_) #[true, true, true, true, true, true, true, true, true, true, true, true, true, true, true, true, true, true, true, true, true, true, false, false, false, false, false, false, false, false, false, false, false, false, false] rfl rfl (any_of HT_.out (by kernel_rfl)) (fun _ _ _ h => h) (Or.inr ⟨by rfl, rfl⟩) ?_ ?_
            rotate_left
            ·simp only [Act.put, List.setIfInBounds_toArray, List.set_cons_zero, List.set_cons_succ, i64_w, i32_w]
             rfl
            refine pure_ (i := 22) (N := some 85) (v := undef) (a' := ?_) #[true, true, true, true, true, true, true, true, true, true, true, true, true, true, true, true, true, true, true, true, true, true, true, false, false, false, false, false, false, false, false, false, false, false, false] rfl rfl (any_of HT_.out (by kernel_rfl)) (fun _ _ _ h => h) (Or.inr ⟨by rfl, rfl⟩) ?_ ?_
            rotate_left
            ·simp only [Act.put, List.setIfInBounds_toArray, List.set_cons_zero, List.set_cons_succ, i64_w, i32_w]
             rfl
            refine pure_ (i := 23) (N := some 86) (v := undef) (a' := ?_) #[true, true, true, true, true, true, true, true, true, true, true, true, true, true, true, true, true, true, true, true, true, true, true, true, false, false, false, false, false, false, false, false, false, false, false] rfl rfl (any_of HT_.out (by kernel_rfl)) (fun _ _ _ h => h) (Or.inr ⟨by rfl, rfl⟩) ?_ ?_
            rotate_left
            ·simp only [Act.put, List.setIfInBounds_toArray, List.set_cons_zero, List.set_cons_succ, i64_w, i32_w]
             rfl
            refine pure_ (i := 24) (N := some 87) (v := undef) (a' := ?_) #[true, true, true, true, true, true, true, true, true, true, true, true, true, true, true, true, true, true, true, true, true, true, true, true, true, false, false, false, false, false, false, false, false, false, false] rfl rfl (any_of HT_.out (by kernel_rfl)) (fun _ _ _ h => h) (Or.inr ⟨by rfl, rfl⟩) ?_ ?_
            rotate_left
            ·simp only [Act.put, List.setIfInBounds_toArray, List.set_cons_zero, List.set_cons_succ, i64_w, i32_w]
             rfl
            refine pure_ (i := 25) (N := some 88) (v := undef) (a' := ?_) #[true, true, true, true, true, true, true, true, true, true, true, true, true, true, true, true, true, true, true, true, true, true, true, true, true, true, false, false, false, false, false, false, false, false, false] rfl rfl (any_of HT_.out (by kernel_rfl)) (fun _ _ _ h => h) (Or.inr ⟨by rfl, rfl⟩) ?_ ?_
            rotate_left
            ·simp only [Act.put, List.setIfInBounds_toArray, List.set_cons_zero, List.set_cons_succ, i64_w, i32_w]
             rfl
            refine pure_ (i := 26) (N := some 89) (v := undef) (a' := ?_) #[true, true, true, true, true, true, true, true, true, true, true, true, true, true, true, true, true, true, true, true, true, true, true, true, true, true, true, false, false, false, false, false, false, false, false] rfl rfl (any_of HT_.out (by kernel_rfl)) (fun _ _ _ h => h) (Or.inr ⟨by rfl, rfl⟩) ?_ ?_
            rotate_left
            ·simp only [Act.put, List.setIfInBounds_toArray, List.set_cons_zero, List.set_cons_succ, i64_w, i32_w]
             rfl
            refine pure_ (i := 27) (N := some 90) (v := undef) (a' := ?_) #[true, true, true, true, true, true, true, true, true, true, true, true, true, true, true, true, true, true, true, true, true, true, true, true, true, true, true, true, false, false, false, false, false, false, false] rfl rfl (any_of HT_.out (by kernel_rfl)) (fun _ _ _ h => h) (Or.inr ⟨by rfl, rfl⟩) ?_ ?_
            rotate_left
            ·simp only [Act.put, List.setIfInBounds_toArray, List.set_cons_zero, List.set_cons_succ, i64_w, i32_w]
             rfl
            refine pure_ (i := 28) (N := some 91) (v := undef) (a' := ?_) #[true, true, true, true, true, true, true, true, true, true, true, true, true, true, true, true, true, true, true, true, true, true, true, true, true, true, true, true, true, false, false, false, false, false, false] rfl rfl (any_of HT_.out (by kernel_rfl)) (fun _ _ _ h => h) (Or.inr ⟨by rfl, rfl⟩) ?_ ?_
            rotate_left
            ·simp only [Act.put, List.setIfInBounds_toArray, List.set_cons_zero, List.set_cons_succ, i64_w, i32_w]
             rfl
            refine pure_ (i := 29) (N := some 92) (v := undef) (a' := ?_) #[true, true, true, true, true, true, true, true, true, true, true, true, true, true, true, true, true, true, true, true, true, true, true, true, true, true, true, true, true, true, false, false, false, false, false] rfl rfl (any_of HT_.out (by kernel_rfl)) (fun _ _ _ h => h) (Or.inr ⟨by rfl, rfl⟩) ?_ ?_
            rotate_left
            ·simp only [Act.put, List.setIfInBounds_toArray, List.set_cons_zero, List.set_cons_succ, i64_w, i32_w]
             rfl
            refine pure_ (i := 30) (N := some 93) (v := undef) (a' := ?_) #[true, true, true, true, true, true, true, true, true, true, true, true, true, true, true, true, true, true, true, true, true, true, true, true, true, true, true, true, true, true, true, false, false, false, false] rfl rfl (any_of HT_.out (by kernel_rfl)) (fun _ _ _ h => h) (Or.inr ⟨by rfl, rfl⟩) ?_ ?_
            rotate_left
            ·simp only [Act.put, List.setIfInBounds_toArray, List.set_cons_zero, List.set_cons_succ, i64_w, i32_w]
             rfl
            refine pure_ (i := 31) (N := some 94) (v := undef) (a' := ?_) #[true, true, true, true, true, true, true, true, true, true, true, true, true, true, true, true, true, true, true, true, true, true, true, true, true, true, true, true, true, true, true, true, false, false, false] rfl rfl (any_of HT_.out (by kernel_rfl)) (fun _ _ _ h => h) (Or.inr ⟨by rfl, rfl⟩) ?_ ?_
            rotate_left
            ·simp only [Act.put, List.setIfInBounds_toArray, List.set_cons_zero, List.set_cons_succ, i64_w, i32_w]
             rfl
            refine pure_ (i := 32) (N := some 95) (v := undef) (a' := ?_) #[true, true, true, true, true, true, true, true, true, true, true, true, true, true, true, true, true, true, true, true, true, true, true, true, true, true, true, true, true, true, true, true, true, false, false] rfl rfl (any_of HT_.out (by kernel_rfl)) (fun _ _ _ h => h) (Or.inr ⟨by rfl, rfl⟩) ?_ ?_
            rotate_left
            ·simp only [Act.put, List.setIfInBounds_toArray, List.set_cons_zero, List.set_cons_succ, i64_w, i32_w]
             rfl
            refine pure_ (i := 33) (N := some 96) (v := undef) (a' := ?_) #[true, true, true, true, true, true, true, true, true, true, true, true, true, true, true, true, true, true, true, true, true, true, true, true, true, true, true, true, true, true, true, true, true, true, false] rfl rfl (any_of HT_.out (by kernel_rfl)) (fun _ _ _ h => h) (Or.inr ⟨by rfl, rfl⟩) ?_ ?_
            rotate_left
            ·simp only [Act.put, List.setIfInBounds_toArray, List.set_cons_zero, List.set_cons_succ, i64_w, i32_w]
             rfl
            refine pure_ (i := 34) (N := some 97) (v := ?_) (a' := ?_) #[true, true, true, true, true, true, true, true, true, true, true, true, true, true, true, true, true, true, true, true, true, true, true, true, true, true, true, true, true, true, true, true, true, true, true] rfl rfl (any_of HT_.out (by kernel_rfl)) (fun _ _ _ h => h) (Or.inl ⟨by rfl, ?_⟩) ?_ ?_
            rotate_left
            ·intro w'
             go_simp
             with_reducible rfl
            rotate_left
            ·simp only [Act.put, List.setIfInBounds_toArray, List.set_cons_zero, List.set_cons_succ, i64_w, i32_w]
             rfl
            refine done_ (done_of HT_.out (by kernel_rfl)) ?_
            try go_wp2
            go_meet
            case rel => exact ⟨_, (true), (by first | rfl | (simp; done) | (simp [*]; done)), H', ⟨by have := HJ5.out; have := HK2.out; first | omega | exact Nat.le_refl _⟩, ⟨by (with_reducible repeat (first | apply Kd.R_alloc | apply Kd.R_drewN | apply Kd.R_drew)); exact HO_9.out⟩, ⟨by (with_reducible repeat (first | refine blk_drewN ?_ _ | refine blk_drew ?_ | refine blk_alloc ?_ _)); exact BK11.out⟩, ⟨by repeat (first | (with_reducible first | exact HB.out | apply below_alloc | apply pw_below_drewN | apply below_drew1 | refine below_set ?_ GE11.out) | exact HB.out)⟩⟩
           ·rw [if_neg c40] at H
            have c40b0 : decide ((rd t16 x11_2) < 0) = false := decide_eq_false c40
            clear c40
            by_cases c42 : (rd t16 x11_2) ≥ (l0_0.length : Int)
            ·rw [if_pos c42] at H
             have c42b0 : decide ((l0_0.length : Int) ≤ (rd t16 x11_2)) = true := decide_eq_true c42
             clear c42
             have H' := Aside0.mk H
             clear H
             try go_wp2
             have n0_ := Aside0.mk (Kd.R_drew HO_9.out)
             have n1_ := Aside0.mk (blk_drew BK11.out)
             have n2_ := Aside0.mk (below_drew1 HB.out)
             clear HO_9
             clear BK11
             clear HB
             have HO_9 := n0_
             have BK11 := n1_
             have HB := n2_
             clear n0_ n1_ n2_
             have p19 : 0 ≤ (x11_2 : Int) := of_decide_eq_true (by first | (with_reducible assumption) | assumption)
             have q19 : x11_2 < (t16.length : Int) := of_decide_eq_true (by first | (with_reducible assumption) | assumption)
             obtain ⟨ad19, e19, hx19_0⟩ := Kd.at_int (Kd.R_reads' HO_9.out).2.2 x11_2 p19 q19
             cases e19
             replace p19 := eq_true p19
             replace q19 := eq_true q19
             have p20 : 0 ≤ (x11_2 : Int) := of_decide_eq_true (by first | (with_reducible assumption) | assumption)
             have q20 : x11_2 < (t16.length : Int) := of_decide_eq_true (by first | (with_reducible assumption) | assumption)
             obtain ⟨ad20, e20, hx20_0⟩ := Kd.at_int (Kd.R_reads' HO_9.out).2.2 x11_2 p20 q20
             obtain rfl : ad19 = ad20 := (by injection e20)
             replace p20 := eq_true p20
             replace q20 := eq_true q20
             refine start_ (n := 35) (S := fun w' => w'.cell? ⟨gb11, 0, none⟩ = some (.slice A0_0 l0_0.length c0_0) ∧ w'.cell? ⟨gb11, 1, none⟩ = some (.slice (some ad15) l0_1.length c0_1) ∧ w'.cell? ⟨gb11, 2, none⟩ = some (.slice A0_2 l0_2.length c0_2) ∧ w'.cell? (ad19.add (x11_2).toNat) = some (.int .i64 (rd t16 x11_2)) ∧ w'.cell? (ad19.add (x11_2).toNat) = some (.int .i64 (rd t16 x11_2))) (ds := []) #[false, false, false, false, false, false, false, false, false, false, false, false, false, false, false, false, false, false, false, false, false, false, false, false, false, false, false, false, false, false, false, false, false, false, false] (by kernel_rfl) rfl rfl ⟨(blk_cell BK11.out 0).trans rfl, (blk_cell BK11.out 1).trans rfl, (blk_cell BK11.out 2).trans rfl, hx19_0, hx20_0⟩ (fun hHeld => ?_); refine with_tabW roadbooklaw16_MemoOf.tab10 roadbooklaw16_MemoOf.bits10 (fun HT_ HW_ => ?_)
             generalize wr.drew = w43 at HO_9 BK11 HB hx19_0 hx20_0 hHeld ⊢
             refine pure_ (i := 0) (N := some 63) (v := ?_) (a' := ?_) #[true, false, false, false, false, false, false, false, false, false, false, false, false, false, false, false, false, false, false, false, false, false, false, false, false, false, false, false, false, false, false, false, false, false, false] rfl rfl (any_of HT_.out (by kernel_rfl)) (fun _ _ _ h => h) (Or.inl ⟨by rfl, ?_⟩) ?_ ?_
             rotate_left
             ·intro w'
              go_simp
              with_reducible rfl
             rotate_left
             ·simp only [Act.put, List.setIfInBounds_toArray, List.set_cons_zero, List.set_cons_succ, i64_w, i32_w]
              rfl
             refine pure_ (i := 1) (N := some 64) (v := ?_) (a' := ?_) #[true, true, false, false, false, false, false, false, false, false, false, false, false, false, false, false, false, false, false, false, false, false, false, false, false, false, false, false, false, false, false, false, false, false, false] rfl rfl (any_of HT_.out (by kernel_rfl)) (fun _ _ _ h => h) (Or.inl ⟨by rfl, ?_⟩) ?_ ?_
             rotate_left
             ·intro w'
              go_simp
              with_reducible rfl
             rotate_left
             ·simp only [Act.put, List.setIfInBounds_toArray, List.set_cons_zero, List.set_cons_succ, i64_w, i32_w]
              rfl
             refine pure_ (i := 2) (N := some 65) (v := ?_) (a' := ?_) #[true, true, true, false, false, false, false, false, false, false, false, false, false, false, false, false, false, false, false, false, false, false, false, false, false, false, false, false, false, false, false, false, false, false, false] rfl rfl (any_of HT_.out (by kernel_rfl)) (fun _ _ _ h => h) (Or.inl ⟨by rfl, ?_⟩) ?_ ?_
             rotate_left
             ·intro w'
              go_simp
              with_reducible rfl
             rotate_left
             ·simp only [Act.put, List.setIfInBounds_toArray, List.set_cons_zero, List.set_cons_succ, i64_w, i32_w]
              rfl
             refine take_ (i := 3) (N := some 66) (v := ?_) (a' := ?_) #[true, true, true, true, false, false, false, false, false, false, false, false, false, false, false, false, false, false, false, false, false, false, false, false, false, false, false, false, false, false, false, false, false, false, false] rfl rfl (take_ofW HT_.out HW_.out (by kernel_rfl)) (fun _ _ _ h => h) (Or.inl ⟨by rfl, ?_⟩) hHeld ?_ ?_
             rotate_left
             ·rintro w' ⟨s0, s1, s2, s3, s4⟩
              go_simp
              with_reducible rfl
             rotate_left
             ·simp only [Act.put, List.setIfInBounds_toArray, List.set_cons_zero, List.set_cons_succ, i64_w, i32_w]
              rfl
             refine pure_ (i := 4) (N := some 67) (v := ?_) (a' := ?_) #[true, true, true, true, true, false, false, false, false, false, false, false, false, false, false, false, false, false, false, false, false, false, false, false, false, false, false, false, false, false, false, false, false, false, false] rfl rfl (any_of HT_.out (by kernel_rfl)) (fun _ _ _ h => h) (Or.inl ⟨by rfl, ?_⟩) ?_ ?_
             rotate_left
             ·intro w'
              go_simp
              with_reducible rfl
             rotate_left
             ·simp only [Act.put, List.setIfInBounds_toArray, List.set_cons_zero, List.set_cons_succ, i64_w, i32_w]
              rfl
             refine pure_ (i := 5) (N := some 68) (v := ?_) (a' := ?_) #[true, true, true, true, true, true, false, false, false, false, false, false, false, false, false, false, false, false, false, false, false, false, false, false, false, false, false, false, false, false, false, false, false, false, false] rfl rfl (any_of HT_.out (by kernel_rfl)) (fun _ _ _ h => h) (Or.inl ⟨by rfl, ?_⟩) ?_ ?_
             rotate_left
             ·intro w'
              go_simp
              with_reducible rfl
             rotate_left
             ·simp only [Act.put, List.setIfInBounds_toArray, List.set_cons_zero, List.set_cons_succ, i64_w, i32_w]
              rfl
             refine pure_ (i := 6) (N := some 69) (v := ?_) (a' := ?_) #[true, true, true, true, true, true, true, false, false, false, false, false, false, false, false, false, false, false, false, false, false, false, false, false, false, false, false, false, false, false, false, false, false, false, false] rfl rfl (any_of HT_.out (by kernel_rfl)) (fun _ _ _ h => h) (Or.inl ⟨by rfl, ?_⟩) ?_ ?_
             rotate_left
             ·intro w'
              go_simp
              with_reducible rfl
             rotate_left
             ·simp only [Act.put, List.setIfInBounds_toArray, List.set_cons_zero, List.set_cons_succ, i64_w, i32_w]
              rfl
             refine pure_ (i := 7) (N := some 70) (v := ?_) (a' := ?_) #[true, true, true, true, true, true, true, true, false, false, false, false, false, false, false, false, false, false, false, false, false, false, false, false, false, false, false, false, false, false, false, false, false, false, false] rfl rfl (any_of HT_.out (by kernel_rfl)) (fun _ _ _ h => h) (Or.inl ⟨by rfl, ?_⟩) ?_ ?_
             rotate_left
             ·intro w'
              go_simp
              with_reducible rfl
             rotate_left
             ·simp only [Act.put, List.setIfInBounds_toArray, List.set_cons_zero, List.set_cons_succ, i64_w, i32_w]
              rfl
             refine pure_ (i := 8) (N := some 71) (v := ?_) (a' := ?_) #[true, true, true, true, true, true, true, true, true, false, false, false, false, false, false, false, false, false, false, false, false, false, false, false, false, false, false, false, false, false, false, false, false, false, false] rfl rfl (any_of HT_.out (by kernel_rfl)) (fun _ _ _ h => h) (Or.inl ⟨by rfl, ?_⟩) ?_ ?_
             rotate_left
             ·intro w'
              go_simp
              with_reducible rfl
             rotate_left
             ·simp only [Act.put, List.setIfInBounds_toArray, List.set_cons_zero, List.set_cons_succ, i64_w, i32_w]
              rfl
             refine pure_ (i := 10) (N := some 73) (v := ?_) (a' := ?_) #[true, true, true, true, true, true, true, true, true, false, true, false, false, false, false, false, false, false, false, false, false, false, false, false, false, false, false, false, false, false, false, false, false, false, false] rfl rfl (any_of HT_.out (by kernel_rfl)) (fun _ _ _ h => h) (Or.inl ⟨by rfl, ?_⟩) ?_ ?_
             rotate_left
             ·intro w'
              go_simp
              with_reducible rfl
             rotate_left
             ·simp only [Act.put, List.setIfInBounds_toArray, List.set_cons_zero, List.set_cons_succ, i64_w, i32_w]
              rfl
             refine take_ (i := 9) (N := some 72) (v := ?_) (a' := ?_) #[true, true, true, true, true, true, true, true, true, true, true, false, false, false, false, false, false, false, false, false, false, false, false, false, false, false, false, false, false, false, false, false, false, false, false] rfl rfl (take_ofW HT_.out HW_.out (by kernel_rfl)) (fun _ _ _ h => h) (Or.inl ⟨by rfl, ?_⟩) hHeld ?_ ?_
             rotate_left
             ·rintro w' ⟨s0, s1, s2, s3, s4⟩
              go_simp
              with_reducible rfl
             rotate_left
             ·simp only [Act.put, List.setIfInBounds_toArray, List.set_cons_zero, List.set_cons_succ, i64_w, i32_w]
              rfl
             refine take_ (i := 11) (N := some 74) (v := ?_) (a' := ?_) #[true, true, true, true, true, true, true, true, true, true, true, true, false, false, false, false, false, false, false, false, false, false, false, false, false, false, false, false, false, false, false, false, false, false, false] rfl rfl (take_ofW HT_.out HW_.out (by kernel_rfl)) (fun _ _ _ h => h) (Or.inl ⟨by rfl, ?_⟩) hHeld ?_ ?_
             rotate_left
             ·rintro w' ⟨s0, s1, s2, s3, s4⟩
              go_simp
              with_reducible rfl
             rotate_left
             ·simp only [Act.put, List.setIfInBounds_toArray, List.set_cons_zero, List.set_cons_succ, i64_w, i32_w]
              rfl
             refine pure_ (i := 12) (N := some 75) (v := ?_) (a' := ?_) #[true, true, true, true, true, true, true, true, true, true, true, true, true, false, false, false, false, false, false, false, false, false, false, false, false, false, false, false, false, false, false, false, false, false, false] rfl rfl (any_of HT_.out (by kernel_rfl)) (fun _ _ _ h => h) (Or.inl ⟨by rfl, ?_⟩) ?_ ?_
             rotate_left
             ·intro w'
              go_simp
              with_reducible rfl
             rotate_left
             ·simp only [Act.put, List.setIfInBounds_toArray, List.set_cons_zero, List.set_cons_succ, i64_w, i32_w]
              rfl
             refine pure_ (i := 13) (N := some 76) (v := ?_) (a' := ?_) #[true, true, true, true, true, true, true, true, true, true, true, true, true, true, false, false, false, false, false, false, false, false, false, false, false, false, false, false, false, false, false, false, false, false, false] rfl rfl (any_of HT_.out (by kernel_rfl)) (fun _ _ _ h => h) (Or.inl ⟨by rfl, ?_⟩) ?_ ?_
             rotate_left
             ·intro w'
              go_simp
              with_reducible rfl
             rotate_left
             ·simp only [Act.put, List.setIfInBounds_toArray, List.set_cons_zero, List.set_cons_succ, i64_w, i32_w]
              rfl
             refine pure_ (i := 14) (N := some 77) (v := ?_) (a' := ?_) #[true, true, true, true, true, true, true, true, true, true, true, true, true, true, true, false, false, false, false, false, false, false, false, false, false, false, false, false, false, false, false, false, false, false, false] rfl rfl (any_of HT_.out (by kernel_rfl)) (fun _ _ _ h => h) (Or.inl ⟨by rfl, ?_⟩) ?_ ?_
             rotate_left
             ·intro w'
              go_simp
              with_reducible rfl
             rotate_left
             ·simp only [Act.put, List.setIfInBounds_toArray, List.set_cons_zero, List.set_cons_succ, i64_w, i32_w]
              rfl
             refine pure_ (i := 15) (N := some 78) (v := ?_) (a' := ?_) #[true, true, true, true, true, true, true, true, true, true, true, true, true, true, true, true, false, false, false, false, false, false, false, false, false, false, false, false, false, false, false, false, false, false, false] rfl rfl (any_of HT_.out (by kernel_rfl)) (fun _ _ _ h => h) (Or.inl ⟨by rfl, ?_⟩) ?_ ?_
             rotate_left
             ·intro w'
              go_simp
              with_reducible rfl
             rotate_left
             ·simp only [Act.put, List.setIfInBounds_toArray, List.set_cons_zero, List.set_cons_succ, i64_w, i32_w]
              rfl
             refine pure_ (i := 16) (N := some 79) (v := undef) (a' := ?_) #[true, true, true, true, true, true, true, true, true, true, true, true, true, true, true, true, true, false, false, false, false, false, false, false, false, false, false, false, false, false, false, false, false, false, false] rfl rfl (any_of HT_.out (by kernel_rfl)) (fun _ _ _ h => h) (Or.inr ⟨by rfl, rfl⟩) ?_ ?_
             rotate_left
             ·simp only [Act.put, List.setIfInBounds_toArray, List.set_cons_zero, List.set_cons_succ, i64_w, i32_w]
              rfl
             refine pure_ (i := 17) (N := some 80) (v := undef) (a' := ?_) #[true, true, true, true, true, true, true, true, true, true, true, true, true, true, true, true, true, true, false, false, false, false, false, false, false, false, false, false, false, false, false, false, false, false, false] rfl rfl (any_of HT_.out (by kernel_rfl)) (fun _ _ _ h => h) (Or.inr ⟨by rfl, rfl⟩) ?_ ?_
             rotate_left
             ·simp only [Act.put, List.setIfInBounds_toArray, List.set_cons_zero, List.set_cons_succ, i64_w, i32_w]
              rfl
             refine pure_ (i := 18) (N := some 81) (v := undef) (a' := ?_) #[true, true, true, true, true, true, true, true, true, true, true, true, true, true, true, true, true, true, true, false, false, false, false, false, false, false, false, false, false, false, false, false, false, false, false] rfl rfl (any_of HT_.out (by kernel_rfl)) (fun _ _ _ h => h) (Or.inr ⟨by rfl, rfl⟩) ?_ ?_
             rotate_left
             ·simp only [Act.put, List.setIfInBounds_toArray, List.set_cons_zero, List.set_cons_succ, i64_w, i32_w]
              rfl
             refine pure_ (i := 19) (N := some 82) (v := undef) (a' := ?_) #[true, true, true, true, true, true, true, true, true, true, true, true, true, true, true, true, true, true, true, true, false, false, false, false, false, false, false, false, false, false, false, false, false, false, false] rfl rfl (any_of HT_.out (by kernel_rfl)) (fun _ _ _ h => h) (Or.inr ⟨by rfl, rfl⟩) ?_ ?_
             rotate_left
             ·simp only [Act.put, List.setIfInBounds_toArray, List.set_cons_zero, List.set_cons_succ, i64_w, i32_w]
              rfl
             refine pure_ (i := 20) (N := some 83) (v := undef) (a' := ?_) #[true, true, true, true, true, true, true, true, true, true, true, true, true, true, true, true, true, true, true, true, true, false, false, false, false, false, false, false, false, false, false, false, false, false, false] rfl rfl (any_of HT_.out (by kernel_rfl)) (fun _ _ _ h => h) (Or.inr ⟨by rfl, rfl⟩) ?_ ?_
             rotate_left
             ·simp only [Act.put, List.setIfInBounds_toArray, List.set_cons_zero, List.set_cons_succ, i64_w, i32_w]
              rfl
             refine pure_ (i := 21) (N := some 84) (v := undef) (a' := ?_) #[true, true, true, true, true, true, true, true, true, true, true, true, true, true, true, true, true, true, true, true, true, true, false, false, false, false, false, false, false, false, false, false, false, false, false] rfl rfl (any_of HT_.out (by kernel_rfl)) (fun _ _ _ h => h) (Or.inr ⟨by rfl, rfl⟩) ?_ ?_
             rotate_left
             ·simp only [Act.put, List.setIfInBounds_toArray, List.set_cons_zero, List.set_cons_succ, i64_w, i32_w]
              rfl
             refine pure_ (i := 22) (N := some 85) (v := undef) (a' := ?_) #[true, true, true, true, true, true, true, true, true, true, true, true, true, true, true, true, true, true, true, true, true, true, true, false, false, false, false, false, false, false, false, false, false, false, false] rfl rfl (any_of HT_.out (by kernel_rfl)) (fun _ _ _ h => h) (Or.inr ⟨by rfl, rfl⟩) ?_ ?_
             rotate_left
             ·simp only [Act.put, List.setIfInBounds_toArray, List.set_cons_zero, List.set_cons_succ, i64_w, i32_w]
              rfl
             refine pure_ (i := 23) (N := some 86) (v := undef) (a' := ?_) #[true, true, true, true, true, true, true, true, true, true, true, true, true, true, true, true, true, true, true, true, true, true, true, true, false, false, false, false, false, false, false, false, false, false, false] rfl rfl (any_of HT_.out (by kernel_rfl)) (fun _ _ _ h => h) (Or.inr ⟨by rfl, rfl⟩) ?_ ?_
             rotate_left
             ·simp only [Act.put, List.setIfInBounds_toArray, List.set_cons_zero, List.set_cons_succ, i64_w, i32_w]
              rfl
             refine pure_ (i := 24) (N := some 87) (v := undef) (a' := ?_) #[true, true, true, true, true, true, true, true, true, true, true, true, true, true, true, true, true, true, true, true, true, true, true, true, true, false, false, false, false, false, false, false, false, false, false] rfl rfl (any_of HT_.out (by kernel_rfl)) (fun _ _ _ h => h) (Or.inr ⟨by rfl, rfl⟩) ?_ ?_
             rotate_left
             ·simp only [Act.put, List.setIfInBounds_toArray, List.set_cons_zero, List.set_cons_succ, i64_w, i32_w]
              rfl
             refine pure_ (i := 25) (N := some 88) (v := undef) (a' := ?_) #[true, true, true, true, true, true, true, true, true, true, true, true, true, true, true, true, true, true, true, true, true, true, true, true, true, true, false, false, false, false, false, false, false, false, false] rfl rfl (any_of HT_.out (by kernel_rfl)) (fun _ _ _ h => h) (Or.inr ⟨by rfl, rfl⟩) ?_ ?_
             rotate_left
             ·simp only [Act.put, List.setIfInBounds_toArray, List.set_cons_zero, List.set_cons_succ, i64_w, i32_w]
              rfl
             refine pure_ (i := 26) (N := some 89) (v := undef) (a' := ?_) #[true, true, true, true, true, true, true, true, true, true, true, true, true, true, true, true, true, true, true, true, true, true, true, true, true, true, true, false, false, false, false, false, false, false, false] rfl rfl (any_of HT_.out (by kernel_rfl)) (fun _ _ _ h => h) (Or.inr ⟨by rfl, rfl⟩) ?_ ?_
             rotate_left
             ·simp only [Act.put, List.setIfInBounds_toArray, List.set_cons_zero, List.set_cons_succ, i64_w, i32_w]
              rfl
             refine pure_ (i := 27) (N := some 90) (v := undef) (a' := ?_) #[true, true, true, true, true, true, true, true, true, true, true, true, true, true, true, true, true, true, true, true, true, true, true, true, true, true, true, true, false, false, false, false, false, false, false] rfl rfl (any_of HT_.out (by kernel_rfl)) (fun _ _ _ h => h) (Or.inr ⟨by rfl, rfl⟩) ?_ ?_
             rotate_left
             ·simp only [Act.put, List.setIfInBounds_toArray, List.set_cons_zero, List.set_cons_succ, i64_w, i32_w]
              rfl
             refine pure_ (i := 28) (N := some 91) (v := undef) (a' := ?_) #[true, true, true, true, true, true, true, true, true, true, true, true, true, true, true, true, true, true, true, true, true, true, true, true, true, true, true, true, true, false, false, false, false, false, false] rfl rfl (any_of HT_.out (by kernel_rfl)) (fun _ _ _ h => h) (Or.inr ⟨by rfl, rfl⟩) ?_ ?_
             rotate_left
             ·simp only [Act.put, List.setIfInBounds_toArray, List.set_cons_zero, List.set_cons_succ, i64_w, i32_w]
              rfl
             refine pure_ (i := 29) (N := some 92) (v := undef) (a' := ?_) #[true, true, true, true, true, true, true, true, true, true, true, true, true, true, true, true, true, true, true, true, true, true, true, true, true, true, true, true, true, true, false, false, false, false, false] rfl rfl (any_of HT_.out (by kernel_rfl)) (fun _ _ _ h => h) (Or.inr ⟨by rfl, rfl⟩) ?_ ?_
             rotate_left
             ·simp only [Act.put, List.setIfInBounds_toArray, List.set_cons_zero, List.set_cons_succ, i64_w, i32_w]
              rfl
             refine pure_ (i := 30) (N := some 93) (v := undef) (a' := ?_) #[true, true, true, true, true, true, true, true, true, true, true, true, true, true, true, true, true, true, true, true, true, true, true, true, true, true, true, true, true, true, true, false, false, false, false] rfl rfl (any_of HT_.out (by kernel_rfl)) (fun _ _ _ h => h) (Or.inr ⟨by rfl, rfl⟩) ?_ ?_
             rotate_left
             ·simp only [Act.put, List.setIfInBounds_toArray, List.set_cons_zero, List.set_cons_succ, i64_w, i32_w]
              rfl
             refine pure_ (i := 31) (N := some 94) (v := undef) (a' := ?_) #[true, true, true, true, true, true, true, true, true, true, true, true, true, true, true, true, true, true, true, true, true, true, true, true, true, true, true, true, true, true, true, true, false, false, false] rfl rfl (any_of HT_.out (by kernel_rfl)) (fun _ _ _ h => h) (Or.inr ⟨by rfl, rfl⟩) ?_ ?_
             rotate_left
             ·simp only [Act.put, List.setIfInBounds_toArray, List.set_cons_zero, List.set_cons_succ, i64_w, i32_w]
              rfl
             refine pure_ (i := 32) (N := some 95) (v := undef) (a' := ?_) #[true, true, true, true, true, true, true, true, true, true, true, true, true, true, true, true, true, true, true, true, true, true, true, true, true, true, true, true, true, true, true, true, true, false, false] rfl rfl (any_of HT_.out (by kernel_rfl)) (fun _ _ _ h => h) (Or.inr ⟨by rfl, rfl⟩) ?_ ?_
             rotate_left
             ·simp only [Act.put, List.setIfInBounds_toArray, List.set_cons_zero, List.set_cons_succ, i64_w, i32_w]
              rfl
             refine pure_ (i := 33) (N := some 96) (v := undef) (a' := ?_) #[true, true, true, true, true, true, true, true, true, true, true, true, true, true, true, true, true, true, true, true, true, true, true, true, true, true, true, true, true, true, true, true, true, true, false] rfl rfl (any_of HT_.out (by kernel_rfl)) (fun _ _ _ h => h) (Or.inr ⟨by rfl, rfl⟩) ?_ ?_
             rotate_left
             ·simp only [Act.put, List.setIfInBounds_toArray, List.set_cons_zero, List.set_cons_succ, i64_w, i32_w]
              rfl
             refine pure_ (i := 34) (N := some 97) (v := ?_) (a' := ?_) #[true, true, true, true, true, true, true, true, true, true, true, true, true, true, true, true, true, true, true, true, true, true, true, true, true, true, true, true, true, true, true, true, true, true, true] rfl rfl (any_of HT_.out (by kernel_rfl)) (fun _ _ _ h => h) (Or.inl ⟨by rfl, ?_⟩) ?_ ?_
             rotate_left
             ·intro w'
              go_simp
              with_reducible rfl
             rotate_left
             ·simp only [Act.put, List.setIfInBounds_toArray, List.set_cons_zero, List.set_cons_succ, i64_w, i32_w]
              rfl
             refine done_ (done_of HT_.out (by kernel_rfl)) ?_
             try go_wp2
             go_meet
             case rel => exact ⟨_, (true), (by first | rfl | (simp; done) | (simp [*]; done)), H', ⟨by have := HJ5.out; have := HK2.out; first | omega | exact Nat.le_refl _⟩, ⟨by (with_reducible repeat (first | apply Kd.R_alloc | apply Kd.R_drewN | apply Kd.R_drew)); exact HO_9.out⟩, ⟨by (with_reducible repeat (first | refine blk_drewN ?_ _ | refine blk_drew ?_ | refine blk_alloc ?_ _)); exact BK11.out⟩, ⟨by repeat (first | (with_reducible first | exact HB.out | apply below_alloc | apply pw_below_drewN | apply below_drew1 | refine below_set ?_ GE11.out) | exact HB.out)⟩⟩
            ·rw [if_neg c42] at H
             have c42b0 : decide ((l0_0.length : Int) ≤ (rd t16 x11_2)) = false := decide_eq_false c42
             clear c42
             by_cases c44 : 0 ≤ (rd t16 x11_2)
             ·rw [if_pos c44] at H
              have c44b0 : decide (0 ≤ (rd t16 x11_2)) = true := decide_eq_true c44
              clear c44
              by_cases c45 : (rd t16 x11_2) < (l0_1.length : Int)
              ·rw [if_pos c45] at H
               have c45b0 : decide ((rd t16 x11_2) < (l0_1.length : Int)) = true := decide_eq_true c45
               clear c45
               replace H := Option.bind_eq_some_iff.mp H
               obtain ⟨t23, A460, H⟩ := H
               replace H : (if 0 ≤ a1 then (if a1 < (l0_1.length : Int) then ((memo_Find.f k2 l0_0 l0_1 l0_2 (rd l0_1 a1)).bind fun t25 => (roadbooklaw16_MemoOf.j2 k2 a1 a2 t16 x10_2 x11_2 (t23 != t25) l0_0 l0_1 l0_2)) else (none)) else (none)) = some r := H
               have A46 := Aside0.mk A460
               clear A460
               by_cases c47 : 0 ≤ a1
               ·rw [if_pos c47] at H
                have c47b0 : decide (0 ≤ a1) = true := decide_eq_true c47
                clear c47
                by_cases c48 : a1 < (l0_1.length : Int)
                ·rw [if_pos c48] at H
                 have c48b0 : decide (a1 < (l0_1.length : Int)) = true := decide_eq_true c48
                 clear c48
                 replace H := Option.bind_eq_some_iff.mp H
                 obtain ⟨t25, A490, H⟩ := H
                 replace H : (roadbooklaw16_MemoOf.j2 k2 a1 a2 t16 x10_2 x11_2 (t23 != t25) l0_0 l0_1 l0_2) = some r := H
                 have A49 := Aside0.mk A490
                 clear A490
                 have H' := Aside0.mk H
                 clear H
                 try go_wp2
                 have n0_ := Aside0.mk (Kd.R_drew HO_9.out)
                 have n1_ := Aside0.mk (blk_drew BK11.out)
                 have n2_ := Aside0.mk (below_drew1 HB.out)
                 clear HO_9
                 clear BK11
                 clear HB
                 have HO_9 := n0_
                 have BK11 := n1_
                 have HB := n2_
                 clear n0_ n1_ n2_
                 have p19 : 0 ≤ (x11_2 : Int) := of_decide_eq_true (by first | (with_reducible assumption) | assumption)
                 have q19 : x11_2 < (t16.length : Int) := of_decide_eq_true (by first | (with_reducible assumption) | assumption)
                 obtain ⟨ad19, e19, hx19_0⟩ := Kd.at_int (Kd.R_reads' HO_9.out).2.2 x11_2 p19 q19
                 cases e19
                 replace p19 := eq_true p19
                 replace q19 := eq_true q19
                 have p20 : 0 ≤ (x11_2 : Int) := of_decide_eq_true (by first | (with_reducible assumption) | assumption)
                 have q20 : x11_2 < (t16.length : Int) := of_decide_eq_true (by first | (with_reducible assumption) | assumption)
                 obtain ⟨ad20, e20, hx20_0⟩ := Kd.at_int (Kd.R_reads' HO_9.out).2.2 x11_2 p20 q20
                 obtain rfl : ad19 = ad20 := (by injection e20)
                 replace p20 := eq_true p20
                 replace q20 := eq_true q20
                 have p21 : 0 ≤ (x11_2 : Int) := of_decide_eq_true (by first | (with_reducible assumption) | assumption)
                 have q21 : x11_2 < (t16.length : Int) := of_decide_eq_true (by first | (with_reducible assumption) | assumption)
                 obtain ⟨ad21, e21, hx21_0⟩ := Kd.at_int (Kd.R_reads' HO_9.out).2.2 x11_2 p21 q21
                 obtain rfl : ad19 = ad21 := (by injection e21)
                 replace p21 := eq_true p21
                 replace q21 := eq_true q21
                 have p22 : 0 ≤ ((rd t16 x11_2) : Int) := of_decide_eq_true (by first | (with_reducible assumption) | assumption)
                 have q22 : (rd t16 x11_2) < (l0_1.length : Int) := of_decide_eq_true (by first | (with_reducible assumption) | assumption)
                 obtain ⟨ad22, e22, hx22_0⟩ := Kd.at_int HR0_1.out (rd t16 x11_2) p22 q22
                 have hw22_0 := hx22_0
                 obtain rfl : ad15 = ad22 := (by injection e22)
                 replace hx22_0 := (HB.out.cell (World.block_lt_of_cell? w _ hx22_0)).trans hx22_0
                 replace p22 := eq_true p22
                 replace q22 := eq_true q22
                 have p24 : 0 ≤ (a1 : Int) := of_decide_eq_true (by first | (with_reducible assumption) | assumption)
                 have q24 : a1 < (l0_1.length : Int) := of_decide_eq_true (by first | (with_reducible assumption) | assumption)
                 obtain ⟨ad24, e24, hx24_0⟩ := Kd.at_int HR0_1.out a1 p24 q24
                 have hw24_0 := hx24_0
                 obtain rfl : ad15 = ad24 := (by injection e24)
                 replace hx24_0 := (HB.out.cell (World.block_lt_of_cell? w _ hx24_0)).trans hx24_0
                 replace p24 := eq_true p24
                 replace q24 := eq_true q24
                 refine start_ (n := 35) (S := fun w' => w'.cell? ⟨gb11, 0, none⟩ = some (.slice A0_0 l0_0.length c0_0) ∧ w'.cell? ⟨gb11, 1, none⟩ = some (.slice (some ad15) l0_1.length c0_1) ∧ w'.cell? ⟨gb11, 2, none⟩ = some (.slice A0_2 l0_2.length c0_2) ∧ w'.cell? (ad19.add (x11_2).toNat) = some (.int .i64 (rd t16 x11_2)) ∧ w'.cell? (ad19.add (x11_2).toNat) = some (.int .i64 (rd t16 x11_2)) ∧ w'.cell? (ad19.add (x11_2).toNat) = some (.int .i64 (rd t16 x11_2)) ∧ w'.cell? (ad15.add ((rd t16 x11_2)).toNat) = some (.int .i64 (rd l0_1 (rd t16 x11_2))) ∧ w'.cell? (ad15.add (a1).toNat) = some (.int .i64 (rd l0_1 a1))) (ds := []) #[false, false, false, false, false, false, false, false, false, false, false, false, false, false, false, false, false, false, false, false, false, false, false, false, false, false, false, false, false, false, false, false, false, false, false] (by kernel_rfl) rfl rfl ⟨(blk_cell BK11.out 0).trans rfl, (blk_cell BK11.out 1).trans rfl, (blk_cell BK11.out 2).trans rfl, hx19_0, hx20_0, hx21_0, ((HB.out.cell (World.block_lt_of_cell? w _ hw22_0)).trans hw22_0), ((HB.out.cell (World.block_lt_of_cell? w _ hw24_0)).trans hw24_0)⟩ (fun hHeld => ?_); refine with_tabW roadbooklaw16_MemoOf.tab10 roadbooklaw16_MemoOf.bits10 (fun HT_ HW_ => ?_)
                 generalize wr.drew = w50 at HO_9 BK11 HB hx19_0 hx20_0 hx21_0 hx22_0 hx24_0 hHeld ⊢
                 refine pure_ (i := 0) (N := some 63) (v := ?_) (a' := ?_) #[true, false, false, false, false, false, false, false, false, false, false, false, false, false, false, false, false, false, false, false, false, false, false, false, false, false, false, false, false, false, false, false, false, false, false] rfl rfl (any_of HT_.out (by kernel_rfl)) (fun _ _ _ h => h) (Or.inl ⟨by rfl, ?_⟩) ?_ ?_
                 rotate_left
                 ·intro w'
                  go_simp
                  with_reducible rfl
                 rotate_left
                 ·simp only [Act.put, List.setIfInBounds_toArray, List.set_cons_zero, List.set_cons_succ, i64_w, i32_w]
                  rfl
                 refine pure_ (i := 1) (N := some 64) (v := ?_) (a' := ?_) #[true, true, false, false, false, false, false, false, false, false, false, false, false, false, false, false, false, false, false, false, false, false, false, false, false, false, false, false, false, false, false, false, false, false, false] rfl rfl (any_of HT_.out (by kernel_rfl)) (fun _ _ _ h => h) (Or.inl ⟨by rfl, ?_⟩) ?_ ?_
                 rotate_left
                 ·intro w'
                  go_simp
                  with_reducible rfl
                 rotate_left
                 ·simp only [Act.put, List.setIfInBounds_toArray, List.set_cons_zero, List.set_cons_succ, i64_w, i32_w]
                  rfl
                 refine pure_ (i := 2) (N := some 65) (v := ?_) (a' := ?_) #[true, true, true, false, false, false, false, false, false, false, false, false, false, false, false, false, false, false, false, false, false, false, false, false, false, false, false, false, false, false, false, false, false, false, false] rfl rfl (any_of HT_.out (by kernel_rfl)) (fun _ _ _ h => h) (Or.inl ⟨by rfl, ?_⟩) ?_ ?_
                 rotate_left
                 ·intro w'
                  go_simp
                  with_reducible rfl
                 rotate_left
                 ·simp only [Act.put, List.setIfInBounds_toArray, List.set_cons_zero, List.set_cons_succ, i64_w, i32_w]
                  rfl
                 refine take_ (i := 3) (N := some 66) (v := ?_) (a' := ?_) #[true, true, true, true, false, false, false, false, false, false, false, false, false, false, false, false, false, false, false, false, false, false, false, false, false, false, false, false, false, false, false, false, false, false, false] rfl rfl (take_ofW HT_.out HW_.out (by kernel_rfl)) (fun _ _ _ h => h) (Or.inl ⟨by rfl, ?_⟩) hHeld ?_ ?_
                 rotate_left
                 ·rintro w' ⟨s0, s1, s2, s3, s4, s5, s6, s7⟩
                  go_simp
                  with_reducible rfl
                 rotate_left
                 ·simp only [Act.put, List.setIfInBounds_toArray, List.set_cons_zero, List.set_cons_succ, i64_w, i32_w]
                  rfl
                 refine pure_ (i := 4) (N := some 67) (v := ?_) (a' := ?_) #[true, true, true, true, true, false, false, false, false, false, false, false, false, false, false, false, false, false, false, false, false, false, false, false, false, false, false, false, false, false, false, false, false, false, false] rfl rfl (any_of HT_.out (by kernel_rfl)) (fun _ _ _ h => h) (Or.inl ⟨by rfl, ?_⟩) ?_ ?_
                 rotate_left
                 ·intro w'
                  go_simp
                  with_reducible rfl
                 rotate_left
                 ·simp only [Act.put, List.setIfInBounds_toArray, List.set_cons_zero, List.set_cons_succ, i64_w, i32_w]
                  rfl
                 refine pure_ (i := 5) (N := some 68) (v := ?_) (a' := ?_) #[true, true, true, true, true, true, false, false, false, false, false, false, false, false, false, false, false, false, false, false, false, false, false, false, false, false, false, false, false, false, false, false, false, false, false] rfl rfl (any_of HT_.out (by kernel_rfl)) (fun _ _ _ h => h) (Or.inl ⟨by rfl, ?_⟩) ?_ ?_
                 rotate_left
                 ·intro w'
                  go_simp
                  with_reducible rfl
                 rotate_left
                 ·simp only [Act.put, List.setIfInBounds_toArray, List.set_cons_zero, List.set_cons_succ, i64_w, i32_w]
                  rfl
                 refine pure_ (i := 6) (N := some 69) (v := ?_) (a' := ?_) #[true, true, true, true, true, true, true, false, false, false, false, false, false, false, false, false, false, false, false, false, false, false, false, false, false, false, false, false, false, false, false, false, false, false, false] rfl rfl (any_of HT_.out (by kernel_rfl)) (fun _ _ _ h => h) (Or.inl ⟨by rfl, ?_⟩) ?_ ?_
                 rotate_left
                 ·intro w'
                  go_simp
                  with_reducible rfl
                 rotate_left
                 ·simp only [Act.put, List.setIfInBounds_toArray, List.set_cons_zero, List.set_cons_succ, i64_w, i32_w]
                  rfl
                 refine pure_ (i := 7) (N := some 70) (v := ?_) (a' := ?_) #[true, true, true, true, true, true, true, true, false, false, false, false, false, false, false, false, false, false, false, false, false, false, false, false, false, false, false, false, false, false, false, false, false, false, false] rfl rfl (any_of HT_.out (by kernel_rfl)) (fun _ _ _ h => h) (Or.inl ⟨by rfl, ?_⟩) ?_ ?_
                 rotate_left
                 ·intro w'
                  go_simp
                  with_reducible rfl
                 rotate_left
                 ·simp only [Act.put, List.setIfInBounds_toArray, List.set_cons_zero, List.set_cons_succ, i64_w, i32_w]
                  rfl
                 refine pure_ (i := 8) (N := some 71) (v := ?_) (a' := ?_) #[true, true, true, true, true, true, true, true, true, false, false, false, false, false, false, false, false, false, false, false, false, false, false, false, false, false, false, false, false, false, false, false, false, false, false] rfl rfl (any_of HT_.out (by kernel_rfl)) (fun _ _ _ h => h) (Or.inl ⟨by rfl, ?_⟩) ?_ ?_
                 rotate_left
                 ·intro w'
                  go_simp
                  with_reducible rfl
                 rotate_left
                 ·simp only [Act.put, List.setIfInBounds_toArray, List.set_cons_zero, List.set_cons_succ, i64_w, i32_w]
                  rfl
                 refine pure_ (i := 10) (N := some 73) (v := ?_) (a' := ?_) #[true, true, true, true, true, true, true, true, true, false, true, false, false, false, false, false, false, false, false, false, false, false, false, false, false, false, false, false, false, false, false, false, false, false, false] rfl rfl (any_of HT_.out (by kernel_rfl)) (fun _ _ _ h => h) (Or.inl ⟨by rfl, ?_⟩) ?_ ?_
                 rotate_left
                 ·intro w'
                  go_simp
                  with_reducible rfl
                 rotate_left
                 ·simp only [Act.put, List.setIfInBounds_toArray, List.set_cons_zero, List.set_cons_succ, i64_w, i32_w]
                  rfl
                 refine take_ (i := 9) (N := some 72) (v := ?_) (a' := ?_) #[true, true, true, true, true, true, true, true, true, true, true, false, false, false, false, false, false, false, false, false, false, false, false, false, false, false, false, false, false, false, false, false, false, false, false] rfl rfl (take_ofW HT_.out HW_.out (by kernel_rfl)) (fun _ _ _ h => h) (Or.inl ⟨by rfl, ?_⟩) hHeld ?_ ?_
                 rotate_left
                 ·rintro w' ⟨s0, s1, s2, s3, s4, s5, s6, s7⟩
                  go_simp
                  with_reducible rfl
                 rotate_left
                 ·simp only [Act.put, List.setIfInBounds_toArray, List.set_cons_zero, List.set_cons_succ, i64_w, i32_w]
                  rfl
                 refine take_ (i := 11) (N := some 74) (v := ?_) (a' := ?_) #[true, true, true, true, true, true, true, true, true, true, true, true, false, false, false, false, false, false, false, false, false, false, false, false, false, false, false, false, false, false, false, false, false, false, false] rfl rfl (take_ofW HT_.out HW_.out (by kernel_rfl)) (fun _ _ _ h => h) (Or.inl ⟨by rfl, ?_⟩) hHeld ?_ ?_
                 rotate_left
                 ·rintro w' ⟨s0, s1, s2, s3, s4, s5, s6, s7⟩
                  go_simp
                  with_reducible rfl
                 rotate_left
                 ·simp only [Act.put, List.setIfInBounds_toArray, List.set_cons_zero, List.set_cons_succ, i64_w, i32_w]
                  rfl
                 refine pure_ (i := 12) (N := some 75) (v := ?_) (a' := ?_) #[true, true, true, true, true, true, true, true, true, true, true, true, true, false, false, false, false, false, false, false, false, false, false, false, false, false, false, false, false, false, false, false, false, false, false] rfl rfl (any_of HT_.out (by kernel_rfl)) (fun _ _ _ h => h) (Or.inl ⟨by rfl, ?_⟩) ?_ ?_
                 rotate_left
                 ·intro w'
                  go_simp
                  with_reducible rfl
                 rotate_left
                 ·simp only [Act.put, List.setIfInBounds_toArray, List.set_cons_zero, List.set_cons_succ, i64_w, i32_w]
                  rfl
                 refine pure_ (i := 13) (N := some 76) (v := ?_) (a' := ?_) #[true, true, true, true, true, true, true, true, true, true, true, true, true, true, false, false, false, false, false, false, false, false, false, false, false, false, false, false, false, false, false, false, false, false, false] rfl rfl (any_of HT_.out (by kernel_rfl)) (fun _ _ _ h => h) (Or.inl ⟨by rfl, ?_⟩) ?_ ?_
                 rotate_left
                 ·intro w'
                  go_simp
                  with_reducible rfl
                 rotate_left
                 ·simp only [Act.put, List.setIfInBounds_toArray, List.set_cons_zero, List.set_cons_succ, i64_w, i32_w]
                  rfl
                 refine pure_ (i := 14) (N := some 77) (v := ?_) (a' := ?_) #[true, true, true, true, true, true, true, true, true, true, true, true, true, true, true, false, false, false, false, false, false, false, false, false, false, false, false, false, false, false, false, false, false, false, false] rfl rfl (any_of HT_.out (by kernel_rfl)) (fun _ _ _ h => h) (Or.inl ⟨by rfl, ?_⟩) ?_ ?_
                 rotate_left
                 ·intro w'
                  go_simp
                  with_reducible rfl
                 rotate_left
                 ·simp only [Act.put, List.setIfInBounds_toArray, List.set_cons_zero, List.set_cons_succ, i64_w, i32_w]
                  rfl
                 refine pure_ (i := 15) (N := some 78) (v := ?_) (a' := ?_) #[true, true, true, true, true, true, true, true, true, true, true, true, true, true, true, true, false, false, false, false, false, false, false, false, false, false, false, false, false, false, false, false, false, false, false] rfl rfl (any_of HT_.out (by kernel_rfl)) (fun _ _ _ h => h) (Or.inl ⟨by rfl, ?_⟩) ?_ ?_
                 rotate_left
                 ·intro w'
                  go_simp
                  with_reducible rfl
                 rotate_left
                 ·simp only [Act.put, List.setIfInBounds_toArray, List.set_cons_zero, List.set_cons_succ, i64_w, i32_w]
                  rfl
                 refine pure_ (i := 17) (N := some 80) (v := ?_) (a' := ?_) #[true, true, true, true, true, true, true, true, true, true, true, true, true, true, true, true, false, true, false, false, false, false, false, false, false, false, false, false, false, false, false, false, false, false, false] rfl rfl (any_of HT_.out (by kernel_rfl)) (fun _ _ _ h => h) (Or.inl ⟨by rfl, ?_⟩) ?_ ?_
                 rotate_left
                 ·intro w'
                  go_simp
                  with_reducible rfl
                 rotate_left
                 ·simp only [Act.put, List.setIfInBounds_toArray, List.set_cons_zero, List.set_cons_succ, i64_w, i32_w]
                  rfl
                 refine pure_ (i := 19) (N := some 82) (v := ?_) (a' := ?_) #[true, true, true, true, true, true, true, true, true, true, true, true, true, true, true, true, false, true, false, true, false, false, false, false, false, false, false, false, false, false, false, false, false, false, false] rfl rfl (any_of HT_.out (by kernel_rfl)) (fun _ _ _ h => h) (Or.inl ⟨by rfl, ?_⟩) ?_ ?_
                 rotate_left
                 ·intro w'
                  go_simp
                  with_reducible rfl
                 rotate_left
                 ·simp only [Act.put, List.setIfInBounds_toArray, List.set_cons_zero, List.set_cons_succ, i64_w, i32_w]
                  rfl
                 refine pure_ (i := 20) (N := some 83) (v := ?_) (a' := ?_) #[true, true, true, true, true, true, true, true, true, true, true, true, true, true, true, true, false, true, false, true, true, false, false, false, false, false, false, false, false, false, false, false, false, false, false] rfl rfl (any_of HT_.out (by kernel_rfl)) (fun _ _ _ h => h) (Or.inl ⟨by rfl, ?_⟩) ?_ ?_
                 rotate_left
                 ·intro w'
                  go_simp
                  with_reducible rfl
                 rotate_left
                 ·simp only [Act.put, List.setIfInBounds_toArray, List.set_cons_zero, List.set_cons_succ, i64_w, i32_w]
                  rfl
                 refine pure_ (i := 21) (N := some 84) (v := ?_) (a' := ?_) #[true, true, true, true, true, true, true, true, true, true, true, true, true, true, true, true, false, true, false, true, true, true, false, false, false, false, false, false, false, false, false, false, false, false, false] rfl rfl (any_of HT_.out (by kernel_rfl)) (fun _ _ _ h => h) (Or.inl ⟨by rfl, ?_⟩) ?_ ?_
                 rotate_left
                 ·intro w'
                  go_simp
                  with_reducible rfl
                 rotate_left
                 ·simp only [Act.put, List.setIfInBounds_toArray, List.set_cons_zero, List.set_cons_succ, i64_w, i32_w]
                  rfl
                 refine pure_ (i := 27) (N := some 90) (v := ?_) (a' := ?_) #[true, true, true, true, true, true, true, true, true, true, true, true, true, true, true, true, false, true, false, true, true, true, false, false, false, false, false, true, false, false, false, false, false, false, false] rfl rfl (any_of HT_.out (by kernel_rfl)) (fun _ _ _ h => h) (Or.inl ⟨by rfl, ?_⟩) ?_ ?_
                 rotate_left
                 ·intro w'
                  go_simp
                  with_reducible rfl
                 rotate_left
                 ·simp only [Act.put, List.setIfInBounds_toArray, List.set_cons_zero, List.set_cons_succ, i64_w, i32_w]
                  rfl
                 refine pure_ (i := 29) (N := some 92) (v := ?_) (a' := ?_) #[true, true, true, true, true, true, true, true, true, true, true, true, true, true, true, true, false, true, false, true, true, true, false, false, false, false, false, true, false, true, false, false, false, false, false] rfl rfl (any_of HT_.out (by kernel_rfl)) (fun _ _ _ h => h) (Or.inl ⟨by rfl, ?_⟩) ?_ ?_
                 rotate_left
                 ·intro w'
                  go_simp
                  with_reducible rfl
                 rotate_left
                 ·simp only [Act.put, List.setIfInBounds_toArray, List.set_cons_zero, List.set_cons_succ, i64_w, i32_w]
                  rfl
                 refine take_ (i := 16) (N := some 79) (v := ?_) (a' := ?_) #[true, true, true, true, true, true, true, true, true, true, true, true, true, true, true, true, true, true, false, true, true, true, false, false, false, false, false, true, false, true, false, false, false, false, false] rfl rfl (take_ofW HT_.out HW_.out (by kernel_rfl)) (fun _ _ _ h => h) (Or.inl ⟨by rfl, ?_⟩) hHeld ?_ ?_
                 rotate_left
                 ·rintro w' ⟨s0, s1, s2, s3, s4, s5, s6, s7⟩
                  go_simp
                  with_reducible rfl
                 rotate_left
                 ·simp only [Act.put, List.setIfInBounds_toArray, List.set_cons_zero, List.set_cons_succ, i64_w, i32_w]
                  rfl
                 refine take_ (i := 18) (N := some 81) (v := ?_) (a' := ?_) #[true, true, true, true, true, true, true, true, true, true, true, true, true, true, true, true, true, true, true, true, true, true, false, false, false, false, false, true, false, true, false, false, false, false, false] rfl rfl (take_ofW HT_.out HW_.out (by kernel_rfl)) (fun _ _ _ h => h) (Or.inl ⟨by rfl, ?_⟩) hHeld ?_ ?_
                 rotate_left
                 ·rintro w' ⟨s0, s1, s2, s3, s4, s5, s6, s7⟩
                  go_simp
                  with_reducible rfl
                 rotate_left
                 ·simp only [Act.put, List.setIfInBounds_toArray, List.set_cons_zero, List.set_cons_succ, i64_w, i32_w]
                  rfl
                 refine take_ (i := 22) (N := some 85) (v := ?_) (a' := ?_) #[true, true, true, true, true, true, true, true, true, true, true, true, true, true, true, true, true, true, true, true, true, true, true, false, false, false, false, true, false, true, false, false, false, false, false] rfl rfl (take_ofW HT_.out HW_.out (by kernel_rfl)) (fun _ _ _ h => h) (Or.inl ⟨by rfl, ?_⟩) hHeld ?_ ?_
                 rotate_left
                 ·rintro w' ⟨s0, s1, s2, s3, s4, s5, s6, s7⟩
                  go_simp
                  with_reducible rfl
                 rotate_left
                 ·simp only [Act.put, List.setIfInBounds_toArray, List.set_cons_zero, List.set_cons_succ, i64_w, i32_w]
                  rfl
                 refine pure_ (i := 23) (N := some 86) (v := ?_) (a' := ?_) #[true, true, true, true, true, true, true, true, true, true, true, true, true, true, true, true, true, true, true, true, true, true, true, true, false, false, false, true, false, true, false, false, false, false, false] rfl rfl (any_of HT_.out (by kernel_rfl)) (fun _ _ _ h => h) (Or.inl ⟨by rfl, ?_⟩) ?_ ?_
                 rotate_left
                 ·intro w'
                  go_simp
                  with_reducible rfl
                 rotate_left
                 ·simp only [Act.put, List.setIfInBounds_toArray, List.set_cons_zero, List.set_cons_succ, i64_w, i32_w]
                  rfl
                 refine take_ (i := 24) (N := some 87) (v := ?_) (a' := ?_) #[true, true, true, true, true, true, true, true, true, true, true, true, true, true, true, true, true, true, true, true, true, true, true, true, true, false, false, true, false, true, false, false, false, false, false] rfl rfl (take_ofW HT_.out HW_.out (by kernel_rfl)) (fun _ _ _ h => h) (Or.inl ⟨by rfl, ?_⟩) hHeld ?_ ?_
                 rotate_left
                 ·rintro w' ⟨s0, s1, s2, s3, s4, s5, s6, s7⟩
                  go_simp
                  with_reducible rfl
                 rotate_left
                 ·simp only [Act.put, List.setIfInBounds_toArray, List.set_cons_zero, List.set_cons_succ, i64_w, i32_w]
                  rfl
                 refine take_ (i := 26) (N := some 89) (v := ?_) (a' := ?_) #[true, true, true, true, true, true, true, true, true, true, true, true, true, true, true, true, true, true, true, true, true, true, true, true, true, false, true, true, false, true, false, false, false, false, false] rfl rfl (take_ofW HT_.out HW_.out (by kernel_rfl)) (fun _ _ _ h => h) (Or.inl ⟨by rfl, ?_⟩) hHeld ?_ ?_
                 rotate_left
                 ·rintro w' ⟨s0, s1, s2, s3, s4, s5, s6, s7⟩
                  go_simp
                  with_reducible rfl
                 rotate_left
                 ·simp only [Act.put, List.setIfInBounds_toArray, List.set_cons_zero, List.set_cons_succ, i64_w, i32_w]
                  rfl
                 refine take_ (i := 28) (N := some 91) (v := ?_) (a' := ?_) #[true, true, true, true, true, true, true, true, true, true, true, true, true, true, true, true, true, true, true, true, true, true, true, true, true, false, true, true, true, true, false, false, false, false, false] rfl rfl (take_ofW HT_.out HW_.out (by kernel_rfl)) (fun _ _ _ h => h) (Or.inl ⟨by rfl, ?_⟩) hHeld ?_ ?_
                 rotate_left
                 ·rintro w' ⟨s0, s1, s2, s3, s4, s5, s6, s7⟩
                  go_simp
                  with_reducible rfl
                 rotate_left
                 ·simp only [Act.put, List.setIfInBounds_toArray, List.set_cons_zero, List.set_cons_succ, i64_w, i32_w]
                  rfl
                 refine pure_ (i := 30) (N := some 93) (v := ?_) (a' := ?_) #[true, true, true, true, true, true, true, true, true, true, true, true, true, true, true, true, true, true, true, true, true, true, true, true, true, false, true, true, true, true, true, false, false, false, false] rfl rfl (any_of HT_.out (by kernel_rfl)) (fun _ _ _ h => h) (Or.inl ⟨by rfl, ?_⟩) ?_ ?_
                 rotate_left
                 ·intro w'
                  go_simp
                  with_reducible rfl
                 rotate_left
                 ·simp only [Act.put, List.setIfInBounds_toArray, List.set_cons_zero, List.set_cons_succ, i64_w, i32_w]
                  rfl
                 refine take_ (i := 31) (N := some 94) (v := ?_) (a' := ?_) #[true, true, true, true, true, true, true, true, true, true, true, true, true, true, true, true, true, true, true, true, true, true, true, true, true, false, true, true, true, true, true, true, false, false, false] rfl rfl (take_ofW HT_.out HW_.out (by kernel_rfl)) (fun _ _ _ h => h) (Or.inl ⟨by rfl, ?_⟩) hHeld ?_ ?_
                 rotate_left
                 ·rintro w' ⟨s0, s1, s2, s3, s4, s5, s6, s7⟩
                  go_simp
                  with_reducible rfl
                 rotate_left
                 ·simp only [Act.put, List.setIfInBounds_toArray, List.set_cons_zero, List.set_cons_succ, i64_w, i32_w]
                  rfl
                 refine one_ (i := 25) (N := some 88) #[true, true, true, true, true, true, true, true, true, true, true, true, true, true, true, true, true, true, true, true, true, true, true, true, true, true, true, true, true, true, true, true, false, false, false] rfl rfl (one_of HT_.out (by kernel_rfl)) (by decide) (fun K hK => ?_)
                 refine goes_ Try.func42 (by kernel_rfl) rfl #[.agg #[.slice A0_0 l0_0.length c0_0, .slice (some ad15) l0_1.length c0_1, .slice A0_2 l0_2.length c0_2], .int .i64 (rd l0_1 (rd t16 x11_2))] (by rfl) rfl rfl (by (try simp only [List.map_toArray, List.map_cons, List.map_nil]); first | done | rfl | (simp only [List.length_drop, List.length_take]; rfl)) ?_
                 with_reducible refine (memo_Find.calls k2 _ _ l0_0 _ _ l0_1 _ _ l0_2 (rd l0_1 (rd t16 x11_2)) t23 _ ?side1 ?side2 ?side3 ?side4 ?side5 ?side6 A46.out).mono ?_
                 (case side1 => repeat (first | exact (Kd.C_below HR0_0.out HB.out) | (with_reducible refine Kd.C_alloc ?_ _) | (with_reducible refine Kd.C_drewN ?_ _) | (with_reducible refine Kd.C_drew ?_)))
                 (case side2 => exact HC0_0.out)
                 (case side3 => repeat (first | exact (Kd.C_below HR0_1.out HB.out) | (with_reducible refine Kd.C_alloc ?_ _) | (with_reducible refine Kd.C_drewN ?_ _) | (with_reducible refine Kd.C_drew ?_)))
                 (case side4 => exact HC0_1.out)
                 (case side5 => repeat (first | exact (Kd.C_below HR0_2.out HB.out) | (with_reducible refine Kd.C_alloc ?_ _) | (with_reducible refine Kd.C_drewN ?_ _) | (with_reducible refine Kd.C_drew ?_)))
                 (case side6 => exact HC0_2.out)
                 rintro e w51 ⟨rfl, hb⟩
                 have HS3_ := (hb.cell (World.block_lt_of_cell? _ _ (hHeld.2.2.2.1))).trans (hHeld.2.2.2.1)
                 have HS4_ := (hb.cell (World.block_lt_of_cell? _ _ (hHeld.2.2.2.2.1))).trans (hHeld.2.2.2.2.1)
                 have HS5_ := (hb.cell (World.block_lt_of_cell? _ _ (hHeld.2.2.2.2.2.1))).trans (hHeld.2.2.2.2.2.1)
                 refine ⟨_, rfl, ?_⟩
                 have n0_ := Aside0.mk (Kd.R_below (by (with_reducible repeat (first | apply Kd.R_alloc | apply Kd.R_drewN | apply Kd.R_drew)); exact HO_9.out) hb)
                 have n1_ := Aside0.mk (blk_below (g := gb11) (o := .cells #[.slice A0_0 l0_0.length c0_0, .slice (some ad15) l0_1.length c0_1, .slice A0_2 l0_2.length c0_2] 38 (0, 0)) (by (with_reducible repeat (first | refine blk_drewN ?_ _ | refine blk_drew ?_ | refine blk_alloc ?_ _)); exact BK11.out) hb)
                 have n2_ := Aside0.mk (below_step (by repeat (first | (with_reducible first | exact HB.out | apply below_alloc | apply pw_below_drewN | apply below_drew1 | refine below_set ?_ GE11.out) | exact HB.out)) hb)
                 clear HO_9
                 clear BK11
                 clear HB
                 have HO_9 := n0_
                 have BK11 := n1_
                 have HB := n2_
                 clear n0_ n1_ n2_
                 (try clear hb)
                 (try clear hb2)
                 (try clear hk)
                 (try clear hi)
                 refine hK.out _ _ ⟨(blk_cell BK11.out 0).trans rfl, (blk_cell BK11.out 1).trans rfl, (blk_cell BK11.out 2).trans rfl, HS3_, HS4_, HS5_, ((HB.out.cell (World.block_lt_of_cell? w _ hw22_0)).trans hw22_0), ((HB.out.cell (World.block_lt_of_cell? w _ hw24_0)).trans hw24_0)⟩ (fun hHeld => ?_)
                 clear hK K
                 refine norm_ (a' := ?_) ?_ ?_
                 rotate_left
                 ·show Act.put _ (some 88) _ = _
                  simp only [Act.put, List.setIfInBounds_toArray, List.set_cons_zero, List.set_cons_succ, i64_w, i32_w]
                  rfl
                 refine one_ (i := 32) (N := some 95) #[true, true, true, true, true, true, true, true, true, true, true, true, true, true, true, true, true, true, true, true, true, true, true, true, true, true, true, true, true, true, true, true, true, false, false] rfl rfl (one_of HT_.out (by kernel_rfl)) (by decide) (fun K hK => ?_)
                 refine goes_ Try.func42 (by kernel_rfl) rfl #[.agg #[.slice A0_0 l0_0.length c0_0, .slice (some ad15) l0_1.length c0_1, .slice A0_2 l0_2.length c0_2], .int .i64 (rd l0_1 a1)] (by rfl) rfl rfl (by (try simp only [List.map_toArray, List.map_cons, List.map_nil]); first | done | rfl | (simp only [List.length_drop, List.length_take]; rfl)) ?_
                 with_reducible refine (memo_Find.calls k2 _ _ l0_0 _ _ l0_1 _ _ l0_2 (rd l0_1 a1) t25 _ ?side1 ?side2 ?side3 ?side4 ?side5 ?side6 A49.out).mono ?_
                 (case side1 => repeat (first | exact (Kd.C_below HR0_0.out HB.out) | (with_reducible refine Kd.C_alloc ?_ _) | (with_reducible refine Kd.C_drewN ?_ _) | (with_reducible refine Kd.C_drew ?_)))
                 (case side2 => exact HC0_0.out)
                 (case side3 => repeat (first | exact (Kd.C_below HR0_1.out HB.out) | (with_reducible refine Kd.C_alloc ?_ _) | (with_reducible refine Kd.C_drewN ?_ _) | (with_reducible refine Kd.C_drew ?_)))
                 (case side4 => exact HC0_1.out)
                 (case side5 => repeat (first | exact (Kd.C_below HR0_2.out HB.out) | (with_reducible refine Kd.C_alloc ?_ _) | (with_reducible refine Kd.C_drewN ?_ _) | (with_reducible refine Kd.C_drew ?_)))
                 (case side6 => exact HC0_2.out)
                 rintro e w52 ⟨rfl, hb⟩
                 have HS3_ := (hb.cell (World.block_lt_of_cell? _ _ (hHeld.2.2.2.1))).trans (hHeld.2.2.2.1)
                 have HS4_ := (hb.cell (World.block_lt_of_cell? _ _ (hHeld.2.2.2.2.1))).trans (hHeld.2.2.2.2.1)
                 have HS5_ := (hb.cell (World.block_lt_of_cell? _ _ (hHeld.2.2.2.2.2.1))).trans (hHeld.2.2.2.2.2.1)
                 refine ⟨_, rfl, ?_⟩
                 have n0_ := Aside0.mk (Kd.R_below (by (with_reducible repeat (first | apply Kd.R_alloc | apply Kd.R_drewN | apply Kd.R_drew)); exact HO_9.out) hb)
                 have n1_ := Aside0.mk (blk_below (g := gb11) (o := .cells #[.slice A0_0 l0_0.length c0_0, .slice (some ad15) l0_1.length c0_1, .slice A0_2 l0_2.length c0_2] 38 (0, 0)) (by (with_reducible repeat (first | refine blk_drewN ?_ _ | refine blk_drew ?_ | refine blk_alloc ?_ _)); exact BK11.out) hb)
                 have n2_ := Aside0.mk (below_step (by repeat (first | (with_reducible first | exact HB.out | apply below_alloc | apply pw_below_drewN | apply below_drew1 | refine below_set ?_ GE11.out) | exact HB.out)) hb)
                 clear HO_9
                 clear BK11
                 clear HB
                 have HO_9 := n0_
                 have BK11 := n1_
                 have HB := n2_
                 clear n0_ n1_ n2_
                 (try clear hb)
                 (try clear hb2)
                 (try clear hk)
                 (try clear hi)
                 refine hK.out _ _ ⟨(blk_cell BK11.out 0).trans rfl, (blk_cell BK11.out 1).trans rfl, (blk_cell BK11.out 2).trans rfl, HS3_, HS4_, HS5_, ((HB.out.cell (World.block_lt_of_cell? w _ hw22_0)).trans hw22_0), ((HB.out.cell (World.block_lt_of_cell? w _ hw24_0)).trans hw24_0)⟩ (fun hHeld => ?_)
                 clear hK K
                 refine norm_ (a' := ?_) ?_ ?_
                 rotate_left
                 ·show Act.put _ (some 95) _ = _
                  simp only [Act.put, List.setIfInBounds_toArray, List.set_cons_zero, List.set_cons_succ, i64_w, i32_w]
                  rfl
                 refine pure_ (i := 33) (N := some 96) (v := ?_) (a' := ?_) #[true, true, true, true, true, true, true, true, true, true, true, true, true, true, true, true, true, true, true, true, true, true, true, true, true, true, true, true, true, true, true, true, true, true, false] rfl rfl (any_of HT_.out (by kernel_rfl)) (fun _ _ _ h => h) (Or.inl ⟨by rfl, ?_⟩) ?_ ?_
                 rotate_left
                 ·intro w'
                  go_simp
                  with_reducible rfl
                 rotate_left
                 ·simp only [Act.put, List.setIfInBounds_toArray, List.set_cons_zero, List.set_cons_succ, i64_w, i32_w]
                  rfl
                 refine pure_ (i := 34) (N := some 97) (v := ?_) (a' := ?_) #[true, true, true, true, true, true, true, true, true, true, true, true, true, true, true, true, true, true, true, true, true, true, true, true, true, true, true, true, true, true, true, true, true, true, true] rfl rfl (any_of HT_.out (by kernel_rfl)) (fun _ _ _ h => h) (Or.inl ⟨by rfl, ?_⟩) ?_ ?_
                 rotate_left
                 ·intro w'
                  go_simp
                  with_reducible rfl
                 rotate_left
                 ·simp only [Act.put, List.setIfInBounds_toArray, List.set_cons_zero, List.set_cons_succ, i64_w, i32_w]
                  rfl
                 refine done_ (done_of HT_.out (by kernel_rfl)) ?_
                 try go_wp2
                 go_meet
                 case rel => exact ⟨_, ((t23 != t25)), (by first | rfl | (simp; done) | (simp [*]; done)), H', ⟨by have := HJ5.out; have := HK2.out; first | omega | exact Nat.le_refl _⟩, ⟨by (with_reducible repeat (first | apply Kd.R_alloc | apply Kd.R_drewN | apply Kd.R_drew)); exact HO_9.out⟩, ⟨by (with_reducible repeat (first | refine blk_drewN ?_ _ | refine blk_drew ?_ | refine blk_alloc ?_ _)); exact BK11.out⟩, ⟨by repeat (first | (with_reducible first | exact HB.out | apply below_alloc | apply pw_below_drewN | apply below_drew1 | refine below_set ?_ GE11.out) | exact HB.out)⟩⟩
                ·rw [if_neg c48] at H
                 exact absurd H (by simp)
               ·rw [if_neg c47] at H
                exact absurd H (by simp)
              ·rw [if_neg c45] at H
               exact absurd H (by simp)
             ·rw [if_neg c44] at H
              exact absurd H (by simp)
          ·rw [if_neg c39] at H
           exact absurd H (by simp)
         case rest =>
          clear HC37
          try clear p1
          try clear q1
          try clear hx1
          try clear p2
          try clear q2
          try clear hx2
          try clear c3
          try clear c4
          try clear p19
          try clear q19
          try clear hx19
          try clear p20
          try clear q20
          try clear hx20
          try clear p21
          try clear q21
          try clear hx21
          try clear p22
          try clear q22
          try clear hx22
          try clear p24
          try clear q24
          try clear hx24
          try clear c39
          try clear c42
          try clear c42b0
          try clear c44
          try clear c44b0
          try clear c45
          try clear c45b0
          try clear c47
          try clear c47b0
          try clear c48
          try clear c48b0
          try clear hx19_0
          try clear hx20_0
          try clear hx21_0
          try clear hx22_0
          try clear hx24_0
          try clear p19
          try clear p20
          try clear p21
          try clear p22
          try clear p24
          try clear q19
          try clear q20
          try clear q21
          try clear q22
          try clear q24
          obtain ⟨kq, x97_36, rfl, HA, HJ36, HO_9, BK11, HB⟩ := hcut
          cases kq with
          | zero => exact absurd HA.out (by simp [roadbooklaw16_MemoOf.j2])
          | succ kj36 =>
           have H := HA.out
           clear HA
           simp only [roadbooklaw16_MemoOf.j2] at H
           by_cases c53 : x97_36 = true
           ·subst c53
            have H1 : (some false) = some r := by rw [if_pos rfl] at H; exact H
            clear H
            have H := H1
            clear H1
            exact absurd (HRT.out.symm.trans (Option.some.inj H).symm) (by decide)
           ·replace c53 := Bool.eq_false_iff.mpr c53
            subst c53
            have H1 : (if 0 ≤ x11_2 then (if x11_2 < (t16.length : Int) then (if 0 ≤ (rd t16 x11_2) then (if (rd t16 x11_2) < (l0_0.length : Int) then ((memo_Canon.f kj36 l0_0 l0_1 l0_2 ((rd_T48 l0_0 (rd t16 x11_2)).f0) ((rd_T48 l0_0 (rd t16 x11_2)).f1) ((rd_T48 l0_0 (rd t16 x11_2)).f2) ((rd_T48 l0_0 (rd t16 x11_2)).f3)).bind fun bt28 => (if 0 ≤ a1 then (if a1 < (l0_0.length : Int) then ((memo_Canon.f kj36 l0_0 l0_1 l0_2 ((rd_T48 l0_0 a1).f0) ((rd_T48 l0_0 a1).f1) ((rd_T48 l0_0 a1).f2) ((rd_T48 l0_0 a1).f3)).bind fun bt33 => (if (bt28.1 == bt33.1 && (bt28.2.1 == bt33.2.1 && (bt28.2.2.1 == bt33.2.2.1 && (bt28.2.2.2 == bt33.2.2.2)))) = true then (roadbooklaw16_MemoOf.l0 kj36 a1 a2 t16 (wrap64 (x10_2 + 1)) (wrap64 (x11_2 + 1)) l0_0 l0_1 l0_2) else (roadbooklaw16_MemoOf.l0 kj36 a1 a2 t16 x10_2 (wrap64 (x11_2 + 1)) l0_0 l0_1 l0_2))) else (none)) else (none))) else (none)) else (none)) else (none)) else (none)) = some r := by rw [if_neg (show ¬ (false = true) by decide)] at H; exact H
            clear H
            have H := H1
            clear H1
            by_cases c54 : 0 ≤ x11_2
            ·rw [if_pos c54] at H
             have c54b0 : decide (0 ≤ x11_2) = true := decide_eq_true c54
             clear c54
             by_cases c55 : x11_2 < (t16.length : Int)
             ·rw [if_pos c55] at H
              have c55b0 : decide (x11_2 < (t16.length : Int)) = true := decide_eq_true c55
              clear c55
              by_cases c56 : 0 ≤ (rd t16 x11_2)
              ·rw [if_pos c56] at H
               have c56b0 : decide (0 ≤ (rd t16 x11_2)) = true := decide_eq_true c56
               clear c56
               by_cases c57 : (rd t16 x11_2) < (l0_0.length : Int)
               ·rw [if_pos c57] at H
                have c57b0 : decide ((rd t16 x11_2) < (l0_0.length : Int)) = true := decide_eq_true c57
                clear c57
                replace H := Option.bind_eq_some_iff.mp H
                obtain ⟨⟨t28, t29, t30, t31⟩, A580, H⟩ := H
                replace H : (if 0 ≤ a1 then (if a1 < (l0_0.length : Int) then ((memo_Canon.f kj36 l0_0 l0_1 l0_2 ((rd_T48 l0_0 a1).f0) ((rd_T48 l0_0 a1).f1) ((rd_T48 l0_0 a1).f2) ((rd_T48 l0_0 a1).f3)).bind fun bt33 => (if (t28 == bt33.1 && (t29 == bt33.2.1 && (t30 == bt33.2.2.1 && (t31 == bt33.2.2.2)))) = true then (roadbooklaw16_MemoOf.l0 kj36 a1 a2 t16 (wrap64 (x10_2 + 1)) (wrap64 (x11_2 + 1)) l0_0 l0_1 l0_2) else (roadbooklaw16_MemoOf.l0 kj36 a1 a2 t16 x10_2 (wrap64 (x11_2 + 1)) l0_0 l0_1 l0_2))) else (none)) else (none)) = some r := H
                have A58 := Aside0.mk A580
                clear A580
                by_cases c59 : 0 ≤ a1
                ·rw [if_pos c59] at H
                 have c59b0 : decide (0 ≤ a1) = true := decide_eq_true c59
                 clear c59
                 by_cases c60 : a1 < (l0_0.length : Int)
                 ·rw [if_pos c60] at H
                  have c60b0 : decide (a1 < (l0_0.length : Int)) = true := decide_eq_true c60
                  clear c60
                  replace H := Option.bind_eq_some_iff.mp H
                  obtain ⟨⟨t33, t34, t35, t36⟩, A610, H⟩ := H
                  replace H : (if (t28 == t33 && (t29 == t34 && (t30 == t35 && (t31 == t36)))) = true then (roadbooklaw16_MemoOf.l0 kj36 a1 a2 t16 (wrap64 (x10_2 + 1)) (wrap64 (x11_2 + 1)) l0_0 l0_1 l0_2) else (roadbooklaw16_MemoOf.l0 kj36 a1 a2 t16 x10_2 (wrap64 (x11_2 + 1)) l0_0 l0_1 l0_2)) = some r := H
                  have A61 := Aside0.mk A610
                  clear A610
                  by_cases c62 : (t28 == t33 && (t29 == t34 && (t30 == t35 && (t31 == t36)))) = true
                  ·rw [if_pos c62] at H
                   have c62b0 : (t28 == t33 && (t29 == t34 && (t30 == t35 && (t31 == t36)))) = true := c62
                   (try (have c62b1 : decide (t28 = t33 && (t29 == t34 && (t30 == t35 && (t31 == t36)))) = true := by simpa using c62))
                   (try (have c62b2 : (t28 == t33 && (t29 == t34 && (t30 == t35 && (t31 == t36)))) = true := by simpa using c62))
                   clear c62
                   have H' := Aside0.mk H
                   clear H
                   try go_wp2
                   have n0_ := Aside0.mk (Kd.R_drew HO_9.out)
                   have n1_ := Aside0.mk (blk_drew BK11.out)
                   have n2_ := Aside0.mk (below_drew1 HB.out)
                   clear HO_9
                   clear BK11
                   clear HB
                   have HO_9 := n0_
                   have BK11 := n1_
                   have HB := n2_
                   clear n0_ n1_ n2_
                   have p26 : 0 ≤ (x11_2 : Int) := of_decide_eq_true (by first | (with_reducible assumption) | assumption)
                   have q26 : x11_2 < (t16.length : Int) := of_decide_eq_true (by first | (with_reducible assumption) | assumption)
                   obtain ⟨ad26, e26, hx26_0⟩ := Kd.at_int (Kd.R_reads' HO_9.out).2.2 x11_2 p26 q26
                   cases e26
                   replace p26 := eq_true p26
                   replace q26 := eq_true q26
                   have p27 : 0 ≤ ((rd t16 x11_2) : Int) := of_decide_eq_true (by first | (with_reducible assumption) | assumption)
                   have q27 : (rd t16 x11_2) < (l0_0.length : Int) := of_decide_eq_true (by first | (with_reducible assumption) | assumption)
                   obtain ⟨ad27, e27, hx27_0, hx27_1, hx27_2, hx27_3⟩ := at_T48 HR0_0.out (rd t16 x11_2) p27 q27
                   have hw27_3 := hx27_3
                   have hw27_2 := hx27_2
                   have hw27_1 := hx27_1
                   have hw27_0 := hx27_0
                   cases e27
                   replace hx27_0 := (HB.out.cell (World.block_lt_of_cell? w _ hx27_0)).trans hx27_0
                   replace hx27_1 := (HB.out.cell (World.block_lt_of_cell? w _ hx27_1)).trans hx27_1
                   replace hx27_2 := (HB.out.cell (World.block_lt_of_cell? w _ hx27_2)).trans hx27_2
                   replace hx27_3 := (HB.out.cell (World.block_lt_of_cell? w _ hx27_3)).trans hx27_3
                   replace p27 := eq_true p27
                   replace q27 := eq_true q27
                   have p32 : 0 ≤ (a1 : Int) := of_decide_eq_true (by first | (with_reducible assumption) | assumption)
                   have q32 : a1 < (l0_0.length : Int) := of_decide_eq_true (by first | (with_reducible assumption) | assumption)
                   obtain ⟨ad32, e32, hx32_0, hx32_1, hx32_2, hx32_3⟩ := at_T48 HR0_0.out a1 p32 q32
                   have hw32_3 := hx32_3
                   have hw32_2 := hx32_2
                   have hw32_1 := hx32_1
                   have hw32_0 := hx32_0
                   obtain rfl : ad27 = ad32 := (by injection e32)
                   replace hx32_0 := (HB.out.cell (World.block_lt_of_cell? w _ hx32_0)).trans hx32_0
                   replace hx32_1 := (HB.out.cell (World.block_lt_of_cell? w _ hx32_1)).trans hx32_1
                   replace hx32_2 := (HB.out.cell (World.block_lt_of_cell? w _ hx32_2)).trans hx32_2
                   replace hx32_3 := (HB.out.cell (World.block_lt_of_cell? w _ hx32_3)).trans hx32_3
                   replace p32 := eq_true p32
                   replace q32 := eq_true q32
                   refine start_ (n := 18) (S := fun w' => w'.cell? ⟨gb11, 0, none⟩ = some (.slice (some ad27) l0_0.length c0_0) ∧ w'.cell? ⟨gb11, 1, none⟩ = some (.slice (some ad15) l0_1.length c0_1) ∧ w'.cell? ⟨gb11, 2, none⟩ = some (.slice A0_2 l0_2.length c0_2) ∧ w'.cell? (ad26.add (x11_2).toNat) = some (.int .i64 (rd t16 x11_2)) ∧ w'.cell? (ad27.add (((rd t16 x11_2)).toNat * 4)) = some (.bool ((rd_T48 l0_0 (rd t16 x11_2)).f0)) ∧ w'.cell? ⟨(ad27.add (((rd t16 x11_2)).toNat * 4)).block, (ad27.add (((rd t16 x11_2)).toNat * 4)).off + 1, none⟩ = some (.int .i64 ((rd_T48 l0_0 (rd t16 x11_2)).f1)) ∧ w'.cell? ⟨(ad27.add (((rd t16 x11_2)).toNat * 4)).block, (ad27.add (((rd t16 x11_2)).toNat * 4)).off + 2, none⟩ = some (.int .i64 ((rd_T48 l0_0 (rd t16 x11_2)).f2)) ∧ w'.cell? ⟨(ad27.add (((rd t16 x11_2)).toNat * 4)).block, (ad27.add (((rd t16 x11_2)).toNat * 4)).off + 3, none⟩ = some (.int .i64 ((rd_T48 l0_0 (rd t16 x11_2)).f3)) ∧ w'.cell? (ad27.add ((a1).toNat * 4)) = some (.bool ((rd_T48 l0_0 a1).f0)) ∧ w'.cell? ⟨(ad27.add ((a1).toNat * 4)).block, (ad27.add ((a1).toNat * 4)).off + 1, none⟩ = some (.int .i64 ((rd_T48 l0_0 a1).f1)) ∧ w'.cell? ⟨(ad27.add ((a1).toNat * 4)).block, (ad27.add ((a1).toNat * 4)).off + 2, none⟩ = some (.int .i64 ((rd_T48 l0_0 a1).f2)) ∧ w'.cell? ⟨(ad27.add ((a1).toNat * 4)).block, (ad27.add ((a1).toNat * 4)).off + 3, none⟩ = some (.int .i64 ((rd_T48 l0_0 a1).f3))) (ds := []) #[false, false, false, false, false, false, false, false, false, false, false, false, false, false, false, false, false, false] (by kernel_rfl) rfl rfl ⟨(blk_cell BK11.out 0).trans rfl, (blk_cell BK11.out 1).trans rfl, (blk_cell BK11.out 2).trans rfl, hx26_0, ((HB.out.cell (World.block_lt_of_cell? w _ hw27_0)).trans hw27_0), ((HB.out.cell (World.block_lt_of_cell? w _ hw27_1)).trans hw27_1), ((HB.out.cell (World.block_lt_of_cell? w _ hw27_2)).trans hw27_2), ((HB.out.cell (World.block_lt_of_cell? w _ hw27_3)).trans hw27_3), ((HB.out.cell (World.block_lt_of_cell? w _ hw32_0)).trans hw32_0), ((HB.out.cell (World.block_lt_of_cell? w _ hw32_1)).trans hw32_1), ((HB.out.cell (World.block_lt_of_cell? w _ hw32_2)).trans hw32_2), ((HB.out.cell (World.block_lt_of_cell? w _ hw32_3)).trans hw32_3)⟩ (fun hHeld => ?_); refine with_tabW roadbooklaw16_MemoOf.tab12 roadbooklaw16_MemoOf.bits12 (fun HT_ HW_ => ?_)
                   generalize wc.drew = w63 at HO_9 BK11 HB hx26_0 hx27_0 hx27_1 hx27_2 hx27_3 hx32_0 hx32_1 hx32_2 hx32_3 hHeld ⊢
                   refine pure_ (i := 1) (N := some 99) (v := ?_) (a' := ?_) #[false, true, false, false, false, false, false, false, false, false, false, false, false, false, false, false, false, false] rfl rfl (any_of HT_.out (by kernel_rfl)) (fun _ _ _ h => h) (Or.inl ⟨by rfl, ?_⟩) ?_ ?_
                   rotate_left
                   ·intro w'
                    go_simp
                    with_reducible rfl
                   rotate_left
                   ·simp only [Act.put, List.setIfInBounds_toArray, List.set_cons_zero, List.set_cons_succ, i64_w, i32_w]
                    rfl
                   refine pure_ (i := 3) (N := some 101) (v := ?_) (a' := ?_) #[false, true, false, true, false, false, false, false, false, false, false, false, false, false, false, false, false, false] rfl rfl (any_of HT_.out (by kernel_rfl)) (fun _ _ _ h => h) (Or.inl ⟨by rfl, ?_⟩) ?_ ?_
                   rotate_left
                   ·intro w'
                    go_simp
                    with_reducible rfl
                   rotate_left
                   ·simp only [Act.put, List.setIfInBounds_toArray, List.set_cons_zero, List.set_cons_succ, i64_w, i32_w]
                    rfl
                   refine pure_ (i := 4) (N := some 102) (v := ?_) (a' := ?_) #[false, true, false, true, true, false, false, false, false, false, false, false, false, false, false, false, false, false] rfl rfl (any_of HT_.out (by kernel_rfl)) (fun _ _ _ h => h) (Or.inl ⟨by rfl, ?_⟩) ?_ ?_
                   rotate_left
                   ·intro w'
                    go_simp
                    with_reducible rfl
                   rotate_left
                   ·simp only [Act.put, List.setIfInBounds_toArray, List.set_cons_zero, List.set_cons_succ, i64_w, i32_w]
                    rfl
                   refine pure_ (i := 5) (N := some 103) (v := ?_) (a' := ?_) #[false, true, false, true, true, true, false, false, false, false, false, false, false, false, false, false, false, false] rfl rfl (any_of HT_.out (by kernel_rfl)) (fun _ _ _ h => h) (Or.inl ⟨by rfl, ?_⟩) ?_ ?_
                   rotate_left
                   ·intro w'
                    go_simp
                    with_reducible rfl
                   rotate_left
                   ·simp only [Act.put, List.setIfInBounds_toArray, List.set_cons_zero, List.set_cons_succ, i64_w, i32_w]
                    rfl
                   refine pure_ (i := 11) (N := some 109) (v := ?_) (a' := ?_) #[false, true, false, true, true, true, false, false, false, false, false, true, false, false, false, false, false, false] rfl rfl (any_of HT_.out (by kernel_rfl)) (fun _ _ _ h => h) (Or.inl ⟨by rfl, ?_⟩) ?_ ?_
                   rotate_left
                   ·intro w'
                    go_simp
                    with_reducible rfl
                   rotate_left
                   ·simp only [Act.put, List.setIfInBounds_toArray, List.set_cons_zero, List.set_cons_succ, i64_w, i32_w]
                    rfl
                   refine pure_ (i := 13) (N := some 111) (v := ?_) (a' := ?_) #[false, true, false, true, true, true, false, false, false, false, false, true, false, true, false, false, false, false] rfl rfl (any_of HT_.out (by kernel_rfl)) (fun _ _ _ h => h) (Or.inl ⟨by rfl, ?_⟩) ?_ ?_
                   rotate_left
                   ·intro w'
                    go_simp
                    with_reducible rfl
                   rotate_left
                   ·simp only [Act.put, List.setIfInBounds_toArray, List.set_cons_zero, List.set_cons_succ, i64_w, i32_w]
                    rfl
                   refine take_ (i := 0) (N := some 98) (v := ?_) (a' := ?_) #[true, true, false, true, true, true, false, false, false, false, false, true, false, true, false, false, false, false] rfl rfl (take_ofW HT_.out HW_.out (by kernel_rfl)) (fun _ _ _ h => h) (Or.inl ⟨by rfl, ?_⟩) hHeld ?_ ?_
                   rotate_left
                   ·rintro w' ⟨s0, s1, s2, s3, s4, s5, s6, s7, s8, s9, s10, s11⟩
                    go_simp
                    with_reducible rfl
                   rotate_left
                   ·simp only [Act.put, List.setIfInBounds_toArray, List.set_cons_zero, List.set_cons_succ, i64_w, i32_w]
                    rfl
                   refine take_ (i := 2) (N := some 100) (v := ?_) (a' := ?_) #[true, true, true, true, true, true, false, false, false, false, false, true, false, true, false, false, false, false] rfl rfl (take_ofW HT_.out HW_.out (by kernel_rfl)) (fun _ _ _ h => h) (Or.inl ⟨by rfl, ?_⟩) hHeld ?_ ?_
                   rotate_left
                   ·rintro w' ⟨s0, s1, s2, s3, s4, s5, s6, s7, s8, s9, s10, s11⟩
                    go_simp
                    with_reducible rfl
                   rotate_left
                   ·simp only [Act.put, List.setIfInBounds_toArray, List.set_cons_zero, List.set_cons_succ, i64_w, i32_w]
                    rfl
                   refine take_ (i := 6) (N := some 104) (v := ?_) (a' := ?_) #[true, true, true, true, true, true, true, false, false, false, false, true, false, true, false, false, false, false] rfl rfl (take_ofW HT_.out HW_.out (by kernel_rfl)) (fun _ _ _ h => h) (Or.inl ⟨by rfl, ?_⟩) hHeld ?_ ?_
                   rotate_left
                   ·rintro w' ⟨s0, s1, s2, s3, s4, s5, s6, s7, s8, s9, s10, s11⟩
                    go_simp
                    with_reducible rfl
                   rotate_left
                   ·simp only [Act.put, List.setIfInBounds_toArray, List.set_cons_zero, List.set_cons_succ, i64_w, i32_w]
                    rfl
                   refine pure_ (i := 7) (N := some 105) (v := ?_) (a' := ?_) #[true, true, true, true, true, true, true, true, false, false, false, true, false, true, false, false, false, false] rfl rfl (any_of HT_.out (by kernel_rfl)) (fun _ _ _ h => h) (Or.inl ⟨by rfl, ?_⟩) ?_ ?_
                   rotate_left
                   ·intro w'
                    go_simp
                    with_reducible rfl
                   rotate_left
                   ·simp only [Act.put, List.setIfInBounds_toArray, List.set_cons_zero, List.set_cons_succ, i64_w, i32_w]
                    rfl
                   refine take_ (i := 8) (N := some 106) (v := ?_) (a' := ?_) #[true, true, true, true, true, true, true, true, true, false, false, true, false, true, false, false, false, false] rfl rfl (take_ofW HT_.out HW_.out (by kernel_rfl)) (fun _ _ _ h => h) (Or.inl ⟨by rfl, ?_⟩) hHeld ?_ ?_
                   rotate_left
                   ·rintro w' ⟨s0, s1, s2, s3, s4, s5, s6, s7, s8, s9, s10, s11⟩
                    go_simp
                    with_reducible rfl
                   rotate_left
                   ·simp only [Act.put, List.setIfInBounds_toArray, List.set_cons_zero, List.set_cons_succ, i64_w, i32_w]
                    rfl
                   refine take_ (i := 10) (N := some 108) (v := ?_) (a' := ?_) #[true, true, true, true, true, true, true, true, true, false, true, true, false, true, false, false, false, false] rfl rfl (take_ofW HT_.out HW_.out (by kernel_rfl)) (fun _ _ _ h => h) (Or.inl ⟨by rfl, ?_⟩) hHeld ?_ ?_
                   rotate_left
                   ·rintro w' ⟨s0, s1, s2, s3, s4, s5, s6, s7, s8, s9, s10, s11⟩
                    go_simp
                    with_reducible rfl
                   rotate_left
                   ·simp only [Act.put, List.setIfInBounds_toArray, List.set_cons_zero, List.set_cons_succ, i64_w, i32_w]
                    rfl
                   refine take_ (i := 12) (N := some 110) (v := ?_) (a' := ?_) #[true, true, true, true, true, true, true, true, true, false, true, true, true, true, false, false, false, false] rfl rfl (take_ofW HT_.out HW_.out (by kernel_rfl)) (fun _ _ _ h => h) (Or.inl ⟨by rfl, ?_⟩) hHeld ?_ ?_
                   rotate_left
                   ·rintro w' ⟨s0, s1, s2, s3, s4, s5, s6, s7, s8, s9, s10, s11⟩
                    go_simp
                    with_reducible rfl
                   rotate_left
                   ·simp only [Act.put, List.setIfInBounds_toArray, List.set_cons_zero, List.set_cons_succ, i64_w, i32_w]
                    rfl
                   refine pure_ (i := 14) (N := some 112) (v := ?_) (a' := ?_) #[true, true, true, true, true, true, true, true, true, false, true, true, true, true, true, false, false, false] rfl rfl (any_of HT_.out (by kernel_rfl)) (fun _ _ _ h => h) (Or.inl ⟨by rfl, ?_⟩) ?_ ?_
                   rotate_left
                   ·intro w'
                    go_simp
                    with_reducible rfl
                   rotate_left
                   ·simp only [Act.put, List.setIfInBounds_toArray, List.set_cons_zero, List.set_cons_succ, i64_w, i32_w]
                    rfl
                   refine take_ (i := 15) (N := some 113) (v := ?_) (a' := ?_) #[true, true, true, true, true, true, true, true, true, false, true, true, true, true, true, true, false, false] rfl rfl (take_ofW HT_.out HW_.out (by kernel_rfl)) (fun _ _ _ h => h) (Or.inl ⟨by rfl, ?_⟩) hHeld ?_ ?_
                   rotate_left
                   ·rintro w' ⟨s0, s1, s2, s3, s4, s5, s6, s7, s8, s9, s10, s11⟩
                    go_simp
                    with_reducible rfl
                   rotate_left
                   ·simp only [Act.put, List.setIfInBounds_toArray, List.set_cons_zero, List.set_cons_succ, i64_w, i32_w]
                    rfl
                   refine one_ (i := 9) (N := some 107) #[true, true, true, true, true, true, true, true, true, true, true, true, true, true, true, true, false, false] rfl rfl (one_of HT_.out (by kernel_rfl)) (by decide) (fun K hK => ?_)
                   refine goes_ Try.func44 (by kernel_rfl) rfl #[.agg #[.slice (some ad27) l0_0.length c0_0, .slice (some ad15) l0_1.length c0_1, .slice A0_2 l0_2.length c0_2], .agg #[.bool ((rd_T48 l0_0 (rd t16 x11_2)).f0), .int .i64 ((rd_T48 l0_0 (rd t16 x11_2)).f1), .int .i64 ((rd_T48 l0_0 (rd t16 x11_2)).f2), .int .i64 ((rd_T48 l0_0 (rd t16 x11_2)).f3)]] (by rfl) rfl rfl (by (try simp only [List.map_toArray, List.map_cons, List.map_nil]); first | done | rfl | (simp only [List.length_drop, List.length_take]; rfl)) ?_
                   with_reducible refine (memo_Canon.calls kj36 _ _ l0_0 _ _ l0_1 _ _ l0_2 ((rd_T48 l0_0 (rd t16 x11_2)).f0) ((rd_T48 l0_0 (rd t16 x11_2)).f1) ((rd_T48 l0_0 (rd t16 x11_2)).f2) ((rd_T48 l0_0 (rd t16 x11_2)).f3) t28 t29 t30 t31 _ ?side1 ?side2 ?side3 ?side4 ?side5 ?side6 A58.out).mono ?_
                   (case side1 => repeat (first | exact (Kd.C_below HR0_0.out HB.out) | (with_reducible refine Kd.C_alloc ?_ _) | (with_reducible refine Kd.C_drewN ?_ _) | (with_reducible refine Kd.C_drew ?_)))
                   (case side2 => exact HC0_0.out)
                   (case side3 => repeat (first | exact (Kd.C_below HR0_1.out HB.out) | (with_reducible refine Kd.C_alloc ?_ _) | (with_reducible refine Kd.C_drewN ?_ _) | (with_reducible refine Kd.C_drew ?_)))
                   (case side4 => exact HC0_1.out)
                   (case side5 => repeat (first | exact (Kd.C_below HR0_2.out HB.out) | (with_reducible refine Kd.C_alloc ?_ _) | (with_reducible refine Kd.C_drewN ?_ _) | (with_reducible refine Kd.C_drew ?_)))
                   (case side6 => exact HC0_2.out)
                   rintro e w64 ⟨rfl, hb⟩
                   have HS3_ := (hb.cell (World.block_lt_of_cell? _ _ (hHeld.2.2.2.1))).trans (hHeld.2.2.2.1)
                   refine ⟨_, rfl, ?_⟩
                   have n0_ := Aside0.mk (Kd.R_below (by (with_reducible repeat (first | apply Kd.R_alloc | apply Kd.R_drewN | apply Kd.R_drew)); exact HO_9.out) hb)
                   have n1_ := Aside0.mk (blk_below (g := gb11) (o := .cells #[.slice (some ad27) l0_0.length c0_0, .slice (some ad15) l0_1.length c0_1, .slice A0_2 l0_2.length c0_2] 38 (0, 0)) (by (with_reducible repeat (first | refine blk_drewN ?_ _ | refine blk_drew ?_ | refine blk_alloc ?_ _)); exact BK11.out) hb)
                   have n2_ := Aside0.mk (below_step (by repeat (first | (with_reducible first | exact HB.out | apply below_alloc | apply pw_below_drewN | apply below_drew1 | refine below_set ?_ GE11.out) | exact HB.out)) hb)
                   clear HO_9
                   clear BK11
                   clear HB
                   have HO_9 := n0_
                   have BK11 := n1_
                   have HB := n2_
                   clear n0_ n1_ n2_
                   (try clear hb)
                   (try clear hb2)
                   (try clear hk)
                   (try clear hi)
                   refine hK.out _ _ ⟨(blk_cell BK11.out 0).trans rfl, (blk_cell BK11.out 1).trans rfl, (blk_cell BK11.out 2).trans rfl, HS3_, ((HB.out.cell (World.block_lt_of_cell? w _ hw27_0)).trans hw27_0), ((HB.out.cell (World.block_lt_of_cell? w _ hw27_1)).trans hw27_1), ((HB.out.cell (World.block_lt_of_cell? w _ hw27_2)).trans hw27_2), ((HB.out.cell (World.block_lt_of_cell? w _ hw27_3)).trans hw27_3), ((HB.out.cell (World.block_lt_of_cell? w _ hw32_0)).trans hw32_0), ((HB.out.cell (World.block_lt_of_cell? w _ hw32_1)).trans hw32_1), ((HB.out.cell (World.block_lt_of_cell? w _ hw32_2)).trans hw32_2), ((HB.out.cell (World.block_lt_of_cell? w _ hw32_3)).trans hw32_3)⟩ (fun hHeld => ?_)
                   clear hK K
                   refine norm_ (a' := ?_) ?_ ?_
                   rotate_left
                   ·show Act.put _ (some 107) _ = _
                    simp only [Act.put, List.setIfInBounds_toArray, List.set_cons_zero, List.set_cons_succ, i64_w, i32_w]
                    rfl
                   refine one_ (i := 16) (N := some 114) #[true, true, true, true, true, true, true, true, true, true, true, true, true, true, true, true, true, false] rfl rfl (one_of HT_.out (by kernel_rfl)) (by decide) (fun K hK => ?_)
                   refine goes_ Try.func44 (by kernel_rfl) rfl #[.agg #[.slice (some ad27) l0_0.length c0_0, .slice (some ad15) l0_1.length c0_1, .slice A0_2 l0_2.length c0_2], .agg #[.bool ((rd_T48 l0_0 a1).f0), .int .i64 ((rd_T48 l0_0 a1).f1), .int .i64 ((rd_T48 l0_0 a1).f2), .int .i64 ((rd_T48 l0_0 a1).f3)]] (by rfl) rfl rfl (by (try simp only [List.map_toArray, List.map_cons, List.map_nil]); first | done | rfl | (simp only [List.length_drop, List.length_take]; rfl)) ?_
                   with_reducible refine (memo_Canon.calls kj36 _ _ l0_0 _ _ l0_1 _ _ l0_2 ((rd_T48 l0_0 a1).f0) ((rd_T48 l0_0 a1).f1) ((rd_T48 l0_0 a1).f2) ((rd_T48 l0_0 a1).f3) t33 t34 t35 t36 _ ?side1 ?side2 ?side3 ?side4 ?side5 ?side6 A61.out).mono ?_
                   (case side1 => repeat (first | exact (Kd.C_below HR0_0.out HB.out) | (with_reducible refine Kd.C_alloc ?_ _) | (with_reducible refine Kd.C_drewN ?_ _) | (with_reducible refine Kd.C_drew ?_)))
                   (case side2 => exact HC0_0.out)
                   (case side3 => repeat (first | exact (Kd.C_below HR0_1.out HB.out) | (with_reducible refine Kd.C_alloc ?_ _) | (with_reducible refine Kd.C_drewN ?_ _) | (with_reducible refine Kd.C_drew ?_)))
                   (case side4 => exact HC0_1.out)
                   (case side5 => repeat (first | exact (Kd.C_below HR0_2.out HB.out) | (with_reducible refine Kd.C_alloc ?_ _) | (with_reducible refine Kd.C_drewN ?_ _) | (with_reducible refine Kd.C_drew ?_)))
                   (case side6 => exact HC0_2.out)
                   rintro e w65 ⟨rfl, hb⟩
                   have HS3_ := (hb.cell (World.block_lt_of_cell? _ _ (hHeld.2.2.2.1))).trans (hHeld.2.2.2.1)
                   refine ⟨_, rfl, ?_⟩
                   have n0_ := Aside0.mk (Kd.R_below (by (with_reducible repeat (first | apply Kd.R_alloc | apply Kd.R_drewN | apply Kd.R_drew)); exact HO_9.out) hb)
                   have n1_ := Aside0.mk (blk_below (g := gb11) (o := .cells #[.slice (some ad27) l0_0.length c0_0, .slice (some ad15) l0_1.length c0_1, .slice A0_2 l0_2.length c0_2] 38 (0, 0)) (by (with_reducible repeat (first | refine blk_drewN ?_ _ | refine blk_drew ?_ | refine blk_alloc ?_ _)); exact BK11.out) hb)
                   have n2_ := Aside0.mk (below_step (by repeat (first | (with_reducible first | exact HB.out | apply below_alloc | apply pw_below_drewN | apply below_drew1 | refine below_set ?_ GE11.out) | exact HB.out)) hb)
                   clear HO_9
                   clear BK11
                   clear HB
                   have HO_9 := n0_
                   have BK11 := n1_
                   have HB := n2_
                   clear n0_ n1_ n2_
                   (try clear hb)
                   (try clear hb2)
                   (try clear hk)
                   (try clear hi)
                   refine hK.out _ _ ⟨(blk_cell BK11.out 0).trans rfl, (blk_cell BK11.out 1).trans rfl, (blk_cell BK11.out 2).trans rfl, HS3_, ((HB.out.cell (World.block_lt_of_cell? w _ hw27_0)).trans hw27_0), ((HB.out.cell (World.block_lt_of_cell? w _ hw27_1)).trans hw27_1), ((HB.out.cell (World.block_lt_of_cell? w _ hw27_2)).trans hw27_2), ((HB.out.cell (World.block_lt_of_cell? w _ hw27_3)).trans hw27_3), ((HB.out.cell (World.block_lt_of_cell? w _ hw32_0)).trans hw32_0), ((HB.out.cell (World.block_lt_of_cell? w _ hw32_1)).trans hw32_1), ((HB.out.cell (World.block_lt_of_cell? w _ hw32_2)).trans hw32_2), ((HB.out.cell (World.block_lt_of_cell? w _ hw32_3)).trans hw32_3)⟩ (fun hHeld => ?_)
                   clear hK K
                   refine norm_ (a' := ?_) ?_ ?_
                   rotate_left
                   ·show Act.put _ (some 114) _ = _
                    simp only [Act.put, List.setIfInBounds_toArray, List.set_cons_zero, List.set_cons_succ, i64_w, i32_w]
                    rfl
                   refine pure_ (i := 17) (N := some 115) (v := ?_) (a' := ?_) #[true, true, true, true, true, true, true, true, true, true, true, true, true, true, true, true, true, true] rfl rfl (any_of HT_.out (by kernel_rfl)) (fun _ _ _ h => h) (Or.inl ⟨by rfl, ?_⟩) ?_ ?_
                   rotate_left
                   ·intro w'
                    go_simp
                    with_reducible rfl
                   rotate_left
                   ·simp only [Act.put, List.setIfInBounds_toArray, List.set_cons_zero, List.set_cons_succ, i64_w, i32_w]
                    rfl
                   refine done_ (done_of HT_.out (by kernel_rfl)) ?_
                   try go_wp2
                   go_roundg kj36
                   case measure => have := HJ5.out; have := HK2.out; have := HJ36.out; omega
                   case rel => exact ⟨(wrap64 (x10_2 + 1)), (wrap64 (x11_2 + 1)), (by first | rfl | (simp; done) | (simp [*]; done)), (by first | rfl | (simp; done) | (simp [*]; done)), H', ⟨by have := HJ5.out; have := HK2.out; have := HJ36.out; omega⟩, ⟨by (with_reducible repeat (first | apply Kd.R_alloc | apply Kd.R_drewN | apply Kd.R_drew)); exact HO_9.out⟩, ⟨by (with_reducible repeat (first | refine blk_drewN ?_ _ | refine blk_drew ?_ | refine blk_alloc ?_ _)); exact BK11.out⟩, ⟨by repeat (first | (with_reducible first | exact HB.out | apply below_alloc | apply pw_below_drewN | apply below_drew1 | refine below_set ?_ GE11.out) | exact HB.out)⟩⟩
                  ·rw [if_neg c62] at H
                   have c62b0 : (t28 == t33 && (t29 == t34 && (t30 == t35 && (t31 == t36)))) = false := by simpa using c62
                   (try (have c62b1 : decide (t28 = t33 && (t29 == t34 && (t30 == t35 && (t31 == t36)))) = false := by simpa using c62))
                   (try (have c62b2 : (t28 == t33 && (t29 == t34 && (t30 == t35 && (t31 == t36)))) = false := by simpa using c62))
                   (try (have c62b3 : ¬ (t28 = t33 && (t29 == t34 && (t30 == t35 && (t31 == t36)))) := by simpa using c62))
                   clear c62
                   have H' := Aside0.mk H
                   clear H
                   try go_wp2
                   have n0_ := Aside0.mk (Kd.R_drew HO_9.out)
                   have n1_ := Aside0.mk (blk_drew BK11.out)
                   have n2_ := Aside0.mk (below_drew1 HB.out)
                   clear HO_9
                   clear BK11
                   clear HB
                   have HO_9 := n0_
                   have BK11 := n1_
                   have HB := n2_
                   clear n0_ n1_ n2_
                   have p26 : 0 ≤ (x11_2 : Int) := of_decide_eq_true (by first | (with_reducible assumption) | assumption)
                   have q26 : x11_2 < (t16.length : Int) := of_decide_eq_true (by first | (with_reducible assumption) | assumption)
                   obtain ⟨ad26, e26, hx26_0⟩ := Kd.at_int (Kd.R_reads' HO_9.out).2.2 x11_2 p26 q26
                   cases e26
                   replace p26 := eq_true p26
                   replace q26 := eq_true q26
                   have p27 : 0 ≤ ((rd t16 x11_2) : Int) := of_decide_eq_true (by first | (with_reducible assumption) | assumption)
                   have q27 : (rd t16 x11_2) < (l0_0.length : Int) := of_decide_eq_true (by first | (with_reducible assumption) | assumption)
                   obtain ⟨ad27, e27, hx27_0, hx27_1, hx27_2, hx27_3⟩ := at_T48 HR0_0.out (rd t16 x11_2) p27 q27
                   have hw27_3 := hx27_3
                   have hw27_2 := hx27_2
                   have hw27_1 := hx27_1
                   have hw27_0 := hx27_0
                   cases e27
                   replace hx27_0 := (HB.out.cell (World.block_lt_of_cell? w _ hx27_0)).trans hx27_0
                   replace hx27_1 := (HB.out.cell (World.block_lt_of_cell? w _ hx27_1)).trans hx27_1
                   replace hx27_2 := (HB.out.cell (World.block_lt_of_cell? w _ hx27_2)).trans hx27_2
                   replace hx27_3 := (HB.out.cell (World.block_lt_of_cell? w _ hx27_3)).trans hx27_3
                   replace p27 := eq_true p27
                   replace q27 := eq_true q27
                   have p32 : 0 ≤ (a1 : Int) := of_decide_eq_true (by first | (with_reducible assumption) | assumption)
                   have q32 : a1 < (l0_0.length : Int) := of_decide_eq_true (by first | (with_reducible assumption) | assumption)
                   obtain ⟨ad32, e32, hx32_0, hx32_1, hx32_2, hx32_3⟩ := at_T48 HR0_0.out a1 p32 q32
                   have hw32_3 := hx32_3
                   have hw32_2 := hx32_2
                   have hw32_1 := hx32_1
                   have hw32_0 := hx32_0
                   obtain rfl : ad27 = ad32 := (by injection e32)
                   replace hx32_0 := (HB.out.cell (World.block_lt_of_cell? w _ hx32_0)).trans hx32_0
                   replace hx32_1 := (HB.out.cell (World.block_lt_of_cell? w _ hx32_1)).trans hx32_1
                   replace hx32_2 := (HB.out.cell (World.block_lt_of_cell? w _ hx32_2)).trans hx32_2
                   replace hx32_3 := (HB.out.cell (World.block_lt_of_cell? w _ hx32_3)).trans hx32_3
                   replace p32 := eq_true p32
                   replace q32 := eq_true q32
                   refine start_ (n := 18) (S := fun w' => w'.cell? ⟨gb11, 0, none⟩ = some (.slice (some ad27) l0_0.length c0_0) ∧ w'.cell? ⟨gb11, 1, none⟩ = some (.slice (some ad15) l0_1.length c0_1) ∧ w'.cell? ⟨gb11, 2, none⟩ = some (.slice A0_2 l0_2.length c0_2) ∧ w'.cell? (ad26.add (x11_2).toNat) = some (.int .i64 (rd t16 x11_2)) ∧ w'.cell? (ad27.add (((rd t16 x11_2)).toNat * 4)) = some (.bool ((rd_T48 l0_0 (rd t16 x11_2)).f0)) ∧ w'.cell? ⟨(ad27.add (((rd t16 x11_2)).toNat * 4)).block, (ad27.add (((rd t16 x11_2)).toNat * 4)).off + 1, none⟩ = some (.int .i64 ((rd_T48 l0_0 (rd t16 x11_2)).f1)) ∧ w'.cell? ⟨(ad27.add (((rd t16 x11_2)).toNat * 4)).block, (ad27.add (((rd t16 x11_2)).toNat * 4)).off + 2, none⟩ = some (.int .i64 ((rd_T48 l0_0 (rd t16 x11_2)).f2)) ∧ w'.cell? ⟨(ad27.add (((rd t16 x11_2)).toNat * 4)).block, (ad27.add (((rd t16 x11_2)).toNat * 4)).off + 3, none⟩ = some (.int .i64 ((rd_T48 l0_0 (rd t16 x11_2)).f3)) ∧ w'.cell? (ad27.add ((a1).toNat * 4)) = some (.bool ((rd_T48 l0_0 a1).f0)) ∧ w'.cell? ⟨(ad27.add ((a1).toNat * 4)).block, (ad27.add ((a1).toNat * 4)).off + 1, none⟩ = some (.int .i64 ((rd_T48 l0_0 a1).f1)) ∧ w'.cell? ⟨(ad27.add ((a1).toNat * 4)).block, (ad27.add ((a1).toNat * 4)).off + 2, none⟩ = some (.int .i64 ((rd_T48 l0_0 a1).f2)) ∧ w'.cell? ⟨(ad27.add ((a1).toNat * 4)).block, (ad27.add ((a1).toNat * 4)).off + 3, none⟩ = some (.int .i64 ((rd_T48 l0_0 a1).f3))) (ds := []) #[false, false, false, false, false, false, false, false, false, false, false, false, false, false, false, false, false, false] (by kernel_rfl) rfl rfl ⟨(blk_cell BK11.out 0).trans rfl, (blk_cell BK11.out 1).trans rfl, (blk_cell BK11.out 2).trans rfl, hx26_0, ((HB.out.cell (World.block_lt_of_cell? w _ hw27_0)).trans hw27_0), ((HB.out.cell (World.block_lt_of_cell? w _ hw27_1)).trans hw27_1), ((HB.out.cell (World.block_lt_of_cell? w _ hw27_2)).trans hw27_2), ((HB.out.cell (World.block_lt_of_cell? w _ hw27_3)).trans hw27_3), ((HB.out.cell (World.block_lt_of_cell? w _ hw32_0)).trans hw32_0), ((HB.out.cell (World.block_lt_of_cell? w _ hw32_1)).trans hw32_1), ((HB.out.cell (World.block_lt_of_cell? w _ hw32_2)).trans hw32_2), ((HB.out.cell (World.block_lt_of_cell? w _ hw32_3)).trans hw32_3)⟩ (fun hHeld => ?_); refine with_tabW roadbooklaw16_MemoOf.tab12 roadbooklaw16_MemoOf.bits12 (fun HT_ HW_ => ?_)
                   generalize wc.drew = w66 at HO_9 BK11 HB hx26_0 hx27_0 hx27_1 hx27_2 hx27_3 hx32_0 hx32_1 hx32_2 hx32_3 hHeld ⊢
                   refine pure_ (i := 1) (N := some 99) (v := ?_) (a' := ?_) #[false, true, false, false, false, false, false, false, false, false, false, false, false, false, false, false, false, false] rfl rfl (any_of HT_.out (by kernel_rfl)) (fun _ _ _ h => h) (Or.inl ⟨by rfl, ?_⟩) ?_ ?_
                   rotate_left
                   ·intro w'
                    go_simp
                    with_reducible rfl
                   rotate_left
                   ·simp only [Act.put, List.setIfInBounds_toArray, List.set_cons_zero, List.set_cons_succ, i64_w, i32_w]
                    rfl
                   refine pure_ (i := 3) (N := some 101) (v := ?_) (a' := ?_) #[false, true, false, true, false, false, false, false, false, false, false, false, false, false, false, false, false, false] rfl rfl (any_of HT_.out (by kernel_rfl)) (fun _ _ _ h => h) (Or.inl ⟨by rfl, ?_⟩) ?_ ?_
                   rotate_left
                   ·intro w'
                    go_simp
                    with_reducible rfl
                   rotate_left
                   ·simp only [Act.put, List.setIfInBounds_toArray, List.set_cons_zero, List.set_cons_succ, i64_w, i32_w]
                    rfl
                   refine pure_ (i := 4) (N := some 102) (v := ?_) (a' := ?_) #[false, true, false, true, true, false, false, false, false, false, false, false, false, false, false, false, false, false] rfl rfl (any_of HT_.out (by kernel_rfl)) (fun _ _ _ h => h) (Or.inl ⟨by rfl, ?_⟩) ?_ ?_
                   rotate_left
                   ·intro w'
                    go_simp
                    with_reducible rfl
                   rotate_left
                   ·simp only [Act.put, List.setIfInBounds_toArray, List.set_cons_zero, List.set_cons_succ, i64_w, i32_w]
                    rfl
                   refine pure_ (i := 5) (N := some 103) (v := ?_) (a' := ?_) #[false, true, false, true, true, true, false, false, false, false, false, false, false, false, false, false, false, false] rfl rfl (any_of HT_.out (by kernel_rfl)) (fun _ _ _ h => h) (Or.inl ⟨by rfl, ?_⟩) ?_ ?_
                   rotate_left
                   ·intro w'
                    go_simp
                    with_reducible rfl
                   rotate_left
                   ·simp only [Act.put, List.setIfInBounds_toArray, List.set_cons_zero, List.set_cons_succ, i64_w, i32_w]
                    rfl
                   refine pure_ (i := 11) (N := some 109) (v := ?_) (a' := ?_) #[false, true, false, true, true, true, false, false, false, false, false, true, false, false, false, false, false, false] rfl rfl (any_of HT_.out (by kernel_rfl)) (fun _ _ _ h => h) (Or.inl ⟨by rfl, ?_⟩) ?_ ?_
                   rotate_left
                   ·intro w'
                    go_simp
                    with_reducible rfl
                   rotate_left
                   ·simp only [Act.put, List.setIfInBounds_toArray, List.set_cons_zero, List.set_cons_succ, i64_w, i32_w]
                    rfl
                   refine pure_ (i := 13) (N := some 111) (v := ?_) (a' := ?_) #[false, true, false, true, true, true, false, false, false, false, false, true, false, true, false, false, false, false] rfl rfl (any_of HT_.out (by kernel_rfl)) (fun _ _ _ h => h) (Or.inl ⟨by rfl, ?_⟩) ?_ ?_
                   rotate_left
                   ·intro w'
                    go_simp
                    with_reducible rfl
                   rotate_left
                   ·simp only [Act.put, List.setIfInBounds_toArray, List.set_cons_zero, List.set_cons_succ, i64_w, i32_w]
                    rfl
                   refine take_ (i := 0) (N := some 98) (v := ?_) (a' := ?_) #[true, true, false, true, true, true, false, false, false, false, false, true, false, true, false, false, false, false] rfl rfl (take_ofW HT_.out HW_.out (by kernel_rfl)) (fun _ _ _ h => h) (Or.inl ⟨by rfl, ?_⟩) hHeld ?_ ?_
                   rotate_left
                   ·rintro w' ⟨s0, s1, s2, s3, s4, s5, s6, s7, s8, s9, s10, s11⟩
                    go_simp
                    with_reducible rfl
                   rotate_left
                   ·simp only [Act.put, List.setIfInBounds_toArray, List.set_cons_zero, List.set_cons_succ, i64_w, i32_w]
                    rfl
                   refine take_ (i := 2) (N := some 100) (v := ?_) (a' := ?_) #[true, true, true, true, true, true, false, false, false, false, false, true, false, true, false, false, false, false] rfl rfl (take_ofW HT_.out HW_.out (by kernel_rfl)) (fun _ _ _ h => h) (Or.inl ⟨by rfl, ?_⟩) hHeld ?_ ?_
                   rotate_left
                   ·rintro w' ⟨s0, s1, s2, s3, s4, s5, s6, s7, s8, s9, s10, s11⟩
                    go_simp
                    with_reducible rfl
                   rotate_left
                   ·simp only [Act.put, List.setIfInBounds_toArray, List.set_cons_zero, List.set_cons_succ, i64_w, i32_w]
                    rfl
                   refine take_ (i := 6) (N := some 104) (v := ?_) (a' := ?_) #[true, true, true, true, true, true, true, false, false, false, false, true, false, true, false, false, false, false] rfl rfl (take_ofW HT_.out HW_.out (by kernel_rfl)) (fun _ _ _ h => h) (Or.inl ⟨by rfl, ?_⟩) hHeld ?_ ?_
                   rotate_left
                   ·rintro w' ⟨s0, s1, s2, s3, s4, s5, s6, s7, s8, s9, s10, s11⟩
                    go_simp
                    with_reducible rfl
                   rotate_left
                   ·simp only [Act.put, List.setIfInBounds_toArray, List.set_cons_zero, List.set_cons_succ, i64_w, i32_w]
                    rfl
                   refine pure_ (i := 7) (N := some 105) (v := ?_) (a' := ?_) #[true, true, true, true, true, true, true, true, false, false, false, true, false, true, false, false, false, false] rfl rfl (any_of HT_.out (by kernel_rfl)) (fun _ _ _ h => h) (Or.inl ⟨by rfl, ?_⟩) ?_ ?_
                   rotate_left
                   ·intro w'
                    go_simp
                    with_reducible rfl
                   rotate_left
                   ·simp only [Act.put, List.setIfInBounds_toArray, List.set_cons_zero, List.set_cons_succ, i64_w, i32_w]
                    rfl
                   refine take_ (i := 8) (N := some 106) (v := ?_) (a' := ?_) #[true, true, true, true, true, true, true, true, true, false, false, true, false, true, false, false, false, false] rfl rfl (take_ofW HT_.out HW_.out (by kernel_rfl)) (fun _ _ _ h => h) (Or.inl ⟨by rfl, ?_⟩) hHeld ?_ ?_
                   rotate_left
                   ·rintro w' ⟨s0, s1, s2, s3, s4, s5, s6, s7, s8, s9, s10, s11⟩
                    go_simp
                    with_reducible rfl
                   rotate_left
                   ·simp only [Act.put, List.setIfInBounds_toArray, List.set_cons_zero, List.set_cons_succ, i64_w, i32_w]
                    rfl
                   refine take_ (i := 10) (N := some 108) (v := ?_) (a' := ?_) #[true, true, true, true, true, true, true, true, true, false, true, true, false, true, false, false, false, false] rfl rfl (take_ofW HT_.out HW_.out (by kernel_rfl)) (fun _ _ _ h => h) (Or.inl ⟨by rfl, ?_⟩) hHeld ?_ ?_
                   rotate_left
                   ·rintro w' ⟨s0, s1, s2, s3, s4, s5, s6, s7, s8, s9, s10, s11⟩
                    go_simp
                    with_reducible rfl
                   rotate_left
                   ·simp only [Act.put, List.setIfInBounds_toArray, List.set_cons_zero, List.set_cons_succ, i64_w, i32_w]
                    rfl
                   refine take_ (i := 12) (N := some 110) (v := ?_) (a' := ?_) #[true, true, true, true, true, true, true, true, true, false, true, true, true, true, false, false, false, false] rfl rfl (take_ofW HT_.out HW_.out (by kernel_rfl)) (fun _ _ _ h => h) (Or.inl ⟨by rfl, ?_⟩) hHeld ?_ ?_
                   rotate_left
                   ·rintro w' ⟨s0, s1, s2, s3, s4, s5, s6, s7, s8, s9, s10, s11⟩
                    go_simp
                    with_reducible rfl
                   rotate_left
                   ·simp only [Act.put, List.setIfInBounds_toArray, List.set_cons_zero, List.set_cons_succ, i64_w, i32_w]
                    rfl
                   refine pure_ (i := 14) (N := some 112) (v := ?_) (a' := ?_) #[true, true, true, true, true, true, true, true, true, false, true, true, true, true, true, false, false, false] rfl rfl (any_of HT_.out (by kernel_rfl)) (fun _ _ _ h => h) (Or.inl ⟨by rfl, ?_⟩) ?_ ?_
                   rotate_left
                   ·intro w'
                    go_simp
                    with_reducible rfl
                   rotate_left
                   ·simp only [Act.put, List.setIfInBounds_toArray, List.set_cons_zero, List.set_cons_succ, i64_w, i32_w]
                    rfl
                   refine take_ (i := 15) (N := some 113) (v := ?_) (a' := ?_) #[true, true, true, true, true, true, true, true, true, false, true, true, true, true, true, true, false, false] rfl rfl (take_ofW HT_.out HW_.out (by kernel_rfl)) (fun _ _ _ h => h) (Or.inl ⟨by rfl, ?_⟩) hHeld ?_ ?_
                   rotate_left
                   ·rintro w' ⟨s0, s1, s2, s3, s4, s5, s6, s7, s8, s9, s10, s11⟩
                    go_simp
                    with_reducible rfl
                   rotate_left
                   ·simp only [Act.put, List.setIfInBounds_toArray, List.set_cons_zero, List.set_cons_succ, i64_w, i32_w]
                    rfl
                   refine one_ (i := 9) (N := some 107) #[true, true, true, true, true, true, true, true, true, true, true, true, true, true, true, true, false, false] rfl rfl (one_of HT_.out (by kernel_rfl)) (by decide) (fun K hK => ?_)
                   refine goes_ Try.func44 (by kernel_rfl) rfl #[.agg #[.slice (some ad27) l0_0.length c0_0, .slice (some ad15) l0_1.length c0_1, .slice A0_2 l0_2.length c0_2], .agg #[.bool ((rd_T48 l0_0 (rd t16 x11_2)).f0), .int .i64 ((rd_T48 l0_0 (rd t16 x11_2)).f1), .int .i64 ((rd_T48 l0_0 (rd t16 x11_2)).f2), .int .i64 ((rd_T48 l0_0 (rd t16 x11_2)).f3)]] (by rfl) rfl rfl (by (try simp only [List.map_toArray, List.map_cons, List.map_nil]); first | done | rfl | (simp only [List.length_drop, List.length_take]; rfl)) ?_
                   with_reducible refine (memo_Canon.calls kj36 _ _ l0_0 _ _ l0_1 _ _ l0_2 ((rd_T48 l0_0 (rd t16 x11_2)).f0) ((rd_T48 l0_0 (rd t16 x11_2)).f1) ((rd_T48 l0_0 (rd t16 x11_2)).f2) ((rd_T48 l0_0 (rd t16 x11_2)).f3) t28 t29 t30 t31 _ ?side1 ?side2 ?side3 ?side4 ?side5 ?side6 A58.out).mono ?_
                   (case side1 => repeat (first | exact (Kd.C_below HR0_0.out HB.out) | (with_reducible refine Kd.C_alloc ?_ _) | (with_reducible refine Kd.C_drewN ?_ _) | (with_reducible refine Kd.C_drew ?_)))
                   (case side2 => exact HC0_0.out)
                   (case side3 => repeat (first | exact (Kd.C_below HR0_1.out HB.out) | (with_reducible refine Kd.C_alloc ?_ _) | (with_reducible refine Kd.C_drewN ?_ _) | (with_reducible refine Kd.C_drew ?_)))
                   (case side4 => exact HC0_1.out)
                   (case side5 => repeat (first | exact (Kd.C_below HR0_2.out HB.out) | (with_reducible refine Kd.C_alloc ?_ _) | (with_reducible refine Kd.C_drewN ?_ _) | (with_reducible refine Kd.C_drew ?_)))
                   (case side6 => exact HC0_2.out)
                   rintro e w67 ⟨rfl, hb⟩
                   have HS3_ := (hb.cell (World.block_lt_of_cell? _ _ (hHeld.2.2.2.1))).trans (hHeld.2.2.2.1)
                   refine ⟨_, rfl, ?_⟩
                   have n0_ := Aside0.mk (Kd.R_below (by (with_reducible repeat (first | apply Kd.R_alloc | apply Kd.R_drewN | apply Kd.R_drew)); exact HO_9.out) hb)
                   have n1_ := Aside0.mk (blk_below (g := gb11) (o := .cells #[.slice (some ad27) l0_0.length c0_0, .slice (some ad15) l0_1.length c0_1, .slice A0_2 l0_2.length c0_2] 38 (0, 0)) (by (with_reducible repeat (first | refine blk_drewN ?_ _ | refine blk_drew ?_ | refine blk_alloc ?_ _)); exact BK11.out) hb)
                   have n2_ := Aside0.mk (below_step (by repeat (first | (with_reducible first | exact HB.out | apply below_alloc | apply pw_below_drewN | apply below_drew1 | refine below_set ?_ GE11.out) | exact HB.out)) hb)
                   clear HO_9
                   clear BK11
                   clear HB
                   have HO_9 := n0_
                   have BK11 := n1_
                   have HB := n2_
                   clear n0_ n1_ n2_
                   (try clear hb)
                   (try clear hb2)
                   (try clear hk)
                   (try clear hi)
                   refine hK.out _ _ ⟨(blk_cell BK11.out 0).trans rfl, (blk_cell BK11.out 1).trans rfl, (blk_cell BK11.out 2).trans rfl, HS3_, ((HB.out.cell (World.block_lt_of_cell? w _ hw27_0)).trans hw27_0), ((HB.out.cell (World.block_lt_of_cell? w _ hw27_1)).trans hw27_1), ((HB.out.cell (World.block_lt_of_cell? w _ hw27_2)).trans hw27_2), ((HB.out.cell (World.block_lt_of_cell? w _ hw27_3)).trans hw27_3), ((HB.out.cell (World.block_lt_of_cell? w _ hw32_0)).trans hw32_0), ((HB.out.cell (World.block_lt_of_cell? w _ hw32_1)).trans hw32_1), ((HB.out.cell (World.block_lt_of_cell? w _ hw32_2)).trans hw32_2), ((HB.out.cell (World.block_lt_of_cell? w _ hw32_3)).trans hw32_3)⟩ (fun hHeld => ?_)
                   clear hK K
                   refine norm_ (a' := ?_) ?_ ?_
                   rotate_left
                   ·show Act.put _ (some 107) _ = _
                    simp only [Act.put, List.setIfInBounds_toArray, List.set_cons_zero, List.set_cons_succ, i64_w, i32_w]
                    rfl
                   refine one_ (i := 16) (N := some 114) #[true, true, true, true, true, true, true, true, true, true, true, true, true, true, true, true, true, false] rfl rfl (one_of HT_.out (by kernel_rfl)) (by decide) (fun K hK => ?_)
                   refine goes_ Try.func44 (by kernel_rfl) rfl #[.agg #[.slice (some ad27) l0_0.length c0_0, .slice (some ad15) l0_1.length c0_1, .slice A0_2 l0_2.length c0_2], .agg #[.bool ((rd_T48 l0_0 a1).f0), .int .i64 ((rd_T48 l0_0 a1).f1), .int .i64 ((rd_T48 l0_0 a1).f2), .int .i64 ((rd_T48 l0_0 a1).f3)]] (by rfl) rfl rfl (by (try simp only [List.map_toArray, List.map_cons, List.map_nil]); first | done | rfl | (simp only [List.length_drop, List.length_take]; rfl)) ?_
                   with_reducible refine (memo_Canon.calls kj36 _ _ l0_0 _ _ l0_1 _ _ l0_2 ((rd_T48 l0_0 a1).f0) ((rd_T48 l0_0 a1).f1) ((rd_T48 l0_0 a1).f2) ((rd_T48 l0_0 a1).f3) t33 t34 t35 t36 _ ?side1 ?side2 ?side3 ?side4 ?side5 ?side6 A61.out).mono ?_
                   (case side1 => repeat (first | exact (Kd.C_below HR0_0.out HB.out) | (with_reducible refine Kd.C_alloc ?_ _) | (with_reducible refine Kd.C_drewN ?_ _) | (with_reducible refine Kd.C_drew ?_)))
                   (case side2 => exact HC0_0.out)
                   (case side3 => repeat (first | exact (Kd.C_below HR0_1.out HB.out) | (with_reducible refine Kd.C_alloc ?_ _) | (with_reducible refine Kd.C_drewN ?_ _) | (with_reducible refine Kd.C_drew ?_)))
                   (case side4 => exact HC0_1.out)
                   (case side5 => repeat (first | exact (Kd.C_below HR0_2.out HB.out) | (with_reducible refine Kd.C_alloc ?_ _) | (with_reducible refine Kd.C_drewN ?_ _) | (with_reducible refine Kd.C_drew ?_)))
                   (case side6 => exact HC0_2.out)
                   rintro e w68 ⟨rfl, hb⟩
                   have HS3_ := (hb.cell (World.block_lt_of_cell? _ _ (hHeld.2.2.2.1))).trans (hHeld.2.2.2.1)
                   refine ⟨_, rfl, ?_⟩
                   have n0_ := Aside0.mk (Kd.R_below (by (with_reducible repeat (first | apply Kd.R_alloc | apply Kd.R_drewN | apply Kd.R_drew)); exact HO_9.out) hb)
                   have n1_ := Aside0.mk (blk_below (g := gb11) (o := .cells #[.slice (some ad27) l0_0.length c0_0, .slice (some ad15) l0_1.length c0_1, .slice A0_2 l0_2.length c0_2] 38 (0, 0)) (by (with_reducible repeat (first | refine blk_drewN ?_ _ | refine blk_drew ?_ | refine blk_alloc ?_ _)); exact BK11.out) hb)
                   have n2_ := Aside0.mk (below_step (by repeat (first | (with_reducible first | exact HB.out | apply below_alloc | apply pw_below_drewN | apply below_drew1 | refine below_set ?_ GE11.out) | exact HB.out)) hb)
                   clear HO_9
                   clear BK11
                   clear HB
                   have HO_9 := n0_
                   have BK11 := n1_
                   have HB := n2_
                   clear n0_ n1_ n2_
                   (try clear hb)
                   (try clear hb2)
                   (try clear hk)
                   (try clear hi)
                   refine hK.out _ _ ⟨(blk_cell BK11.out 0).trans rfl, (blk_cell BK11.out 1).trans rfl, (blk_cell BK11.out 2).trans rfl, HS3_, ((HB.out.cell (World.block_lt_of_cell? w _ hw27_0)).trans hw27_0), ((HB.out.cell (World.block_lt_of_cell? w _ hw27_1)).trans hw27_1), ((HB.out.cell (World.block_lt_of_cell? w _ hw27_2)).trans hw27_2), ((HB.out.cell (World.block_lt_of_cell? w _ hw27_3)).trans hw27_3), ((HB.out.cell (World.block_lt_of_cell? w _ hw32_0)).trans hw32_0), ((HB.out.cell (World.block_lt_of_cell? w _ hw32_1)).trans hw32_1), ((HB.out.cell (World.block_lt_of_cell? w _ hw32_2)).trans hw32_2), ((HB.out.cell (World.block_lt_of_cell? w _ hw32_3)).trans hw32_3)⟩ (fun hHeld => ?_)
                   clear hK K
                   refine norm_ (a' := ?_) ?_ ?_
                   rotate_left
                   ·show Act.put _ (some 114) _ = _
                    simp only [Act.put, List.setIfInBounds_toArray, List.set_cons_zero, List.set_cons_succ, i64_w, i32_w]
                    rfl
                   refine pure_ (i := 17) (N := some 115) (v := ?_) (a' := ?_) #[true, true, true, true, true, true, true, true, true, true, true, true, true, true, true, true, true, true] rfl rfl (any_of HT_.out (by kernel_rfl)) (fun _ _ _ h => h) (Or.inl ⟨by rfl, ?_⟩) ?_ ?_
                   rotate_left
                   ·intro w'
                    go_simp
                    with_reducible rfl
                   rotate_left
                   ·simp only [Act.put, List.setIfInBounds_toArray, List.set_cons_zero, List.set_cons_succ, i64_w, i32_w]
                    rfl
                   refine done_ (done_of HT_.out (by kernel_rfl)) ?_
                   try go_wp2
                   go_roundg kj36
                   case measure => have := HJ5.out; have := HK2.out; have := HJ36.out; omega
                   case rel => exact ⟨(x10_2), (wrap64 (x11_2 + 1)), (by first | rfl | (simp; done) | (simp [*]; done)), (by first | rfl | (simp; done) | (simp [*]; done)), H', ⟨by have := HJ5.out; have := HK2.out; have := HJ36.out; omega⟩, ⟨by (with_reducible repeat (first | apply Kd.R_alloc | apply Kd.R_drewN | apply Kd.R_drew)); exact HO_9.out⟩, ⟨by (with_reducible repeat (first | refine blk_drewN ?_ _ | refine blk_drew ?_ | refine blk_alloc ?_ _)); exact BK11.out⟩, ⟨by repeat (first | (with_reducible first | exact HB.out | apply below_alloc | apply pw_below_drewN | apply below_drew1 | refine below_set ?_ GE11.out) | exact HB.out)⟩⟩
                 ·rw [if_neg c60] at H
                  exact absurd H (by simp)
                ·rw [if_neg c59] at H
                 exact absurd H (by simp)
               ·rw [if_neg c57] at H
                exact absurd H (by simp)
              ·rw [if_neg c56] at H
               exact absurd H (by simp)
             ·rw [if_neg c55] at H
              exact absurd H (by simp)
            ·rw [if_neg c54] at H
             exact absurd H (by simp)
        ·rw [if_neg c36] at H
         have c36b0 : decide (x11_2 < (t16.length : Int)) = false := decide_eq_false c36
         clear c36
         by_cases c69 : 0 ≤ a1
         ·rw [if_pos c69] at H
          have c69b0 : decide (0 ≤ a1) = true := decide_eq_true c69
          clear c69
          by_cases c70 : a1 < (l0_0.length : Int)
          ·rw [if_pos c70] at H
           have c70b0 : decide (a1 < (l0_0.length : Int)) = true := decide_eq_true c70
           clear c70
           replace H := Option.bind_eq_some_iff.mp H
           obtain ⟨⟨t38, t39, t40, t41⟩, A710, H⟩ := H
           replace H : (if 0 ≤ a2 then (if a2 < (l0_0.length : Int) then ((memo_Canon.f k2 l0_0 l0_1 l0_2 ((rd_T48 l0_0 a2).f0) ((rd_T48 l0_0 a2).f1) ((rd_T48 l0_0 a2).f2) ((rd_T48 l0_0 a2).f3)).bind fun bt43 => (if x10_2 = 1 then (if ((t38 == bt43.1 && (t39 == bt43.2.1 && (t40 == bt43.2.2.1 && (t41 == bt43.2.2.2)))) = true) then (if a1 < (l0_1.length : Int) then ((memo_Find.f k2 l0_0 l0_1 l0_2 (rd l0_1 a1)).bind fun t48 => (if a2 < (l0_1.length : Int) then ((memo_Find.f k2 l0_0 l0_1 l0_2 (rd l0_1 a2)).bind fun t50 => (some (t48 == t50))) else (none))) else (none)) else (some true)) else (some false))) else (none)) else (none)) = some r := H
           have A71 := Aside0.mk A710
           clear A710
           by_cases c72 : 0 ≤ a2
           ·rw [if_pos c72] at H
            have c72b0 : decide (0 ≤ a2) = true := decide_eq_true c72
            clear c72
            by_cases c73 : a2 < (l0_0.length : Int)
            ·rw [if_pos c73] at H
             have c73b0 : decide (a2 < (l0_0.length : Int)) = true := decide_eq_true c73
             clear c73
             replace H := Option.bind_eq_some_iff.mp H
             obtain ⟨⟨t43, t44, t45, t46⟩, A740, H⟩ := H
             replace H : (if x10_2 = 1 then (if ((t38 == t43 && (t39 == t44 && (t40 == t45 && (t41 == t46)))) = true) then (if a1 < (l0_1.length : Int) then ((memo_Find.f k2 l0_0 l0_1 l0_2 (rd l0_1 a1)).bind fun t48 => (if a2 < (l0_1.length : Int) then ((memo_Find.f k2 l0_0 l0_1 l0_2 (rd l0_1 a2)).bind fun t50 => (some (t48 == t50))) else (none))) else (none)) else (some true)) else (some false)) = some r := H
             have A74 := Aside0.mk A740
             clear A740
             by_cases c75 : x10_2 = 1
             ·rw [if_pos c75] at H
              have c75b0 : (x10_2 == 1) = true := beq_iff_eq.mpr c75
              have c75b1 : (x10_2 != 1) = false := bne_eq_false_iff_eq.mpr c75
              clear c75
              by_cases c76 : ((t38 == t43 && (t39 == t44 && (t40 == t45 && (t41 == t46)))) = true)
              ·rw [if_pos c76] at H
               have c76b0 : (t38 == t43 && (t39 == t44 && (t40 == t45 && (t41 == t46)))) = true := c76
               (try (have c76b1 : decide (t38 = t43 && (t39 == t44 && (t40 == t45 && (t41 == t46)))) = true := by simpa using c76))
               (try (have c76b2 : (t38 == t43 && (t39 == t44 && (t40 == t45 && (t41 == t46)))) = true := by simpa using c76))
               clear c76
               by_cases c77 : a1 < (l0_1.length : Int)
               ·rw [if_pos c77] at H
                have c77b0 : decide (a1 < (l0_1.length : Int)) = true := decide_eq_true c77
                clear c77
                replace H := Option.bind_eq_some_iff.mp H
                obtain ⟨t48, A780, H⟩ := H
                replace H : (if a2 < (l0_1.length : Int) then ((memo_Find.f k2 l0_0 l0_1 l0_2 (rd l0_1 a2)).bind fun t50 => (some (t48 == t50))) else (none)) = some r := H
                have A78 := Aside0.mk A780
                clear A780
                by_cases c79 : a2 < (l0_1.length : Int)
                ·rw [if_pos c79] at H
                 have c79b0 : decide (a2 < (l0_1.length : Int)) = true := decide_eq_true c79
                 clear c79
                 replace H := Option.bind_eq_some_iff.mp H
                 obtain ⟨t50, A800, H⟩ := H
                 replace H : (some (t48 == t50)) = some r := H
                 have A80 := Aside0.mk A800
                 clear A800
                 obtain rfl := Option.some.inj H
                 obtain ⟨Ao81, co81, eo81⟩ := Kd.R_slice HO_9.out
                 subst eo81
                 try go_wp2
                 have n0_ := Aside0.mk (Kd.R_drew HO_9.out)
                 have n1_ := Aside0.mk (blk_drew BK11.out)
                 have n2_ := Aside0.mk (below_drew1 HB.out)
                 clear HO_9
                 clear BK11
                 clear HB
                 have HO_9 := n0_
                 have BK11 := n1_
                 have HB := n2_
                 clear n0_ n1_ n2_
                 have p37 : 0 ≤ (a1 : Int) := of_decide_eq_true (by first | (with_reducible assumption) | assumption)
                 have q37 : a1 < (l0_0.length : Int) := of_decide_eq_true (by first | (with_reducible assumption) | assumption)
                 obtain ⟨ad37, e37, hx37_0, hx37_1, hx37_2, hx37_3⟩ := at_T48 HR0_0.out a1 p37 q37
                 have hw37_3 := hx37_3
                 have hw37_2 := hx37_2
                 have hw37_1 := hx37_1
                 have hw37_0 := hx37_0
                 cases e37
                 replace hx37_0 := (HB.out.cell (World.block_lt_of_cell? w _ hx37_0)).trans hx37_0
                 replace hx37_1 := (HB.out.cell (World.block_lt_of_cell? w _ hx37_1)).trans hx37_1
                 replace hx37_2 := (HB.out.cell (World.block_lt_of_cell? w _ hx37_2)).trans hx37_2
                 replace hx37_3 := (HB.out.cell (World.block_lt_of_cell? w _ hx37_3)).trans hx37_3
                 replace p37 := eq_true p37
                 replace q37 := eq_true q37
                 have p42 : 0 ≤ (a2 : Int) := of_decide_eq_true (by first | (with_reducible assumption) | assumption)
                 have q42 : a2 < (l0_0.length : Int) := of_decide_eq_true (by first | (with_reducible assumption) | assumption)
                 obtain ⟨ad42, e42, hx42_0, hx42_1, hx42_2, hx42_3⟩ := at_T48 HR0_0.out a2 p42 q42
                 have hw42_3 := hx42_3
                 have hw42_2 := hx42_2
                 have hw42_1 := hx42_1
                 have hw42_0 := hx42_0
                 obtain rfl : ad37 = ad42 := (by injection e42)
                 replace hx42_0 := (HB.out.cell (World.block_lt_of_cell? w _ hx42_0)).trans hx42_0
                 replace hx42_1 := (HB.out.cell (World.block_lt_of_cell? w _ hx42_1)).trans hx42_1
                 replace hx42_2 := (HB.out.cell (World.block_lt_of_cell? w _ hx42_2)).trans hx42_2
                 replace hx42_3 := (HB.out.cell (World.block_lt_of_cell? w _ hx42_3)).trans hx42_3
                 replace p42 := eq_true p42
                 replace q42 := eq_true q42
                 refine start_ (n := 16) (S := fun w' => w'.cell? ⟨gb11, 0, none⟩ = some (.slice (some ad37) l0_0.length c0_0) ∧ w'.cell? ⟨gb11, 1, none⟩ = some (.slice (some ad15) l0_1.length c0_1) ∧ w'.cell? ⟨gb11, 2, none⟩ = some (.slice A0_2 l0_2.length c0_2) ∧ w'.cell? (ad37.add ((a1).toNat * 4)) = some (.bool ((rd_T48 l0_0 a1).f0)) ∧ w'.cell? ⟨(ad37.add ((a1).toNat * 4)).block, (ad37.add ((a1).toNat * 4)).off + 1, none⟩ = some (.int .i64 ((rd_T48 l0_0 a1).f1)) ∧ w'.cell? ⟨(ad37.add ((a1).toNat * 4)).block, (ad37.add ((a1).toNat * 4)).off + 2, none⟩ = some (.int .i64 ((rd_T48 l0_0 a1).f2)) ∧ w'.cell? ⟨(ad37.add ((a1).toNat * 4)).block, (ad37.add ((a1).toNat * 4)).off + 3, none⟩ = some (.int .i64 ((rd_T48 l0_0 a1).f3)) ∧ w'.cell? (ad37.add ((a2).toNat * 4)) = some (.bool ((rd_T48 l0_0 a2).f0)) ∧ w'.cell? ⟨(ad37.add ((a2).toNat * 4)).block, (ad37.add ((a2).toNat * 4)).off + 1, none⟩ = some (.int .i64 ((rd_T48 l0_0 a2).f1)) ∧ w'.cell? ⟨(ad37.add ((a2).toNat * 4)).block, (ad37.add ((a2).toNat * 4)).off + 2, none⟩ = some (.int .i64 ((rd_T48 l0_0 a2).f2)) ∧ w'.cell? ⟨(ad37.add ((a2).toNat * 4)).block, (ad37.add ((a2).toNat * 4)).off + 3, none⟩ = some (.int .i64 ((rd_T48 l0_0 a2).f3))) (ds := []) #[false, false, false, false, false, false, false, false, false, false, false, false, false, false, false, false] (by kernel_rfl) rfl rfl ⟨(blk_cell BK11.out 0).trans rfl, (blk_cell BK11.out 1).trans rfl, (blk_cell BK11.out 2).trans rfl, ((HB.out.cell (World.block_lt_of_cell? w _ hw37_0)).trans hw37_0), ((HB.out.cell (World.block_lt_of_cell? w _ hw37_1)).trans hw37_1), ((HB.out.cell (World.block_lt_of_cell? w _ hw37_2)).trans hw37_2), ((HB.out.cell (World.block_lt_of_cell? w _ hw37_3)).trans hw37_3), ((HB.out.cell (World.block_lt_of_cell? w _ hw42_0)).trans hw42_0), ((HB.out.cell (World.block_lt_of_cell? w _ hw42_1)).trans hw42_1), ((HB.out.cell (World.block_lt_of_cell? w _ hw42_2)).trans hw42_2), ((HB.out.cell (World.block_lt_of_cell? w _ hw42_3)).trans hw42_3)⟩ (fun hHeld => ?_); refine with_tabW roadbooklaw16_MemoOf.tab14 roadbooklaw16_MemoOf.bits14 (fun HT_ HW_ => ?_)
                 generalize wr.drew = w82 at HO_9 BK11 HB hx37_0 hx37_1 hx37_2 hx37_3 hx42_0 hx42_1 hx42_2 hx42_3 hHeld ⊢
                 refine pure_ (i := 1) (N := some 119) (v := ?_) (a' := ?_) #[false, true, false, false, false, false, false, false, false, false, false, false, false, false, false, false] rfl rfl (any_of HT_.out (by kernel_rfl)) (fun _ _ _ h => h) (Or.inl ⟨by rfl, ?_⟩) ?_ ?_
                 rotate_left
                 ·intro w'
                  go_simp
                  with_reducible rfl
                 rotate_left
                 ·simp only [Act.put, List.setIfInBounds_toArray, List.set_cons_zero, List.set_cons_succ, i64_w, i32_w]
                  rfl
                 refine pure_ (i := 3) (N := some 121) (v := ?_) (a' := ?_) #[false, true, false, true, false, false, false, false, false, false, false, false, false, false, false, false] rfl rfl (any_of HT_.out (by kernel_rfl)) (fun _ _ _ h => h) (Or.inl ⟨by rfl, ?_⟩) ?_ ?_
                 rotate_left
                 ·intro w'
                  go_simp
                  with_reducible rfl
                 rotate_left
                 ·simp only [Act.put, List.setIfInBounds_toArray, List.set_cons_zero, List.set_cons_succ, i64_w, i32_w]
                  rfl
                 refine pure_ (i := 8) (N := some 126) (v := ?_) (a' := ?_) #[false, true, false, true, false, false, false, false, true, false, false, false, false, false, false, false] rfl rfl (any_of HT_.out (by kernel_rfl)) (fun _ _ _ h => h) (Or.inl ⟨by rfl, ?_⟩) ?_ ?_
                 rotate_left
                 ·intro w'
                  go_simp
                  with_reducible rfl
                 rotate_left
                 ·simp only [Act.put, List.setIfInBounds_toArray, List.set_cons_zero, List.set_cons_succ, i64_w, i32_w]
                  rfl
                 refine pure_ (i := 10) (N := some 128) (v := ?_) (a' := ?_) #[false, true, false, true, false, false, false, false, true, false, true, false, false, false, false, false] rfl rfl (any_of HT_.out (by kernel_rfl)) (fun _ _ _ h => h) (Or.inl ⟨by rfl, ?_⟩) ?_ ?_
                 rotate_left
                 ·intro w'
                  go_simp
                  with_reducible rfl
                 rotate_left
                 ·simp only [Act.put, List.setIfInBounds_toArray, List.set_cons_zero, List.set_cons_succ, i64_w, i32_w]
                  rfl
                 refine take_ (i := 0) (N := some 118) (v := ?_) (a' := ?_) #[true, true, false, true, false, false, false, false, true, false, true, false, false, false, false, false] rfl rfl (take_ofW HT_.out HW_.out (by kernel_rfl)) (fun _ _ _ h => h) (Or.inl ⟨by rfl, ?_⟩) hHeld ?_ ?_
                 rotate_left
                 ·rintro w' ⟨s0, s1, s2, s3, s4, s5, s6, s7, s8, s9, s10⟩
                  go_simp
                  with_reducible rfl
                 rotate_left
                 ·simp only [Act.put, List.setIfInBounds_toArray, List.set_cons_zero, List.set_cons_succ, i64_w, i32_w]
                  rfl
                 refine take_ (i := 2) (N := some 120) (v := ?_) (a' := ?_) #[true, true, true, true, false, false, false, false, true, false, true, false, false, false, false, false] rfl rfl (take_ofW HT_.out HW_.out (by kernel_rfl)) (fun _ _ _ h => h) (Or.inl ⟨by rfl, ?_⟩) hHeld ?_ ?_
                 rotate_left
                 ·rintro w' ⟨s0, s1, s2, s3, s4, s5, s6, s7, s8, s9, s10⟩
                  go_simp
                  with_reducible rfl
                 rotate_left
                 ·simp only [Act.put, List.setIfInBounds_toArray, List.set_cons_zero, List.set_cons_succ, i64_w, i32_w]
                  rfl
                 refine pure_ (i := 4) (N := some 122) (v := ?_) (a' := ?_) #[true, true, true, true, true, false, false, false, true, false, true, false, false, false, false, false] rfl rfl (any_of HT_.out (by kernel_rfl)) (fun _ _ _ h => h) (Or.inl ⟨by rfl, ?_⟩) ?_ ?_
                 rotate_left
                 ·intro w'
                  go_simp
                  with_reducible rfl
                 rotate_left
                 ·simp only [Act.put, List.setIfInBounds_toArray, List.set_cons_zero, List.set_cons_succ, i64_w, i32_w]
                  rfl
                 refine take_ (i := 5) (N := some 123) (v := ?_) (a' := ?_) #[true, true, true, true, true, true, false, false, true, false, true, false, false, false, false, false] rfl rfl (take_ofW HT_.out HW_.out (by kernel_rfl)) (fun _ _ _ h => h) (Or.inl ⟨by rfl, ?_⟩) hHeld ?_ ?_
                 rotate_left
                 ·rintro w' ⟨s0, s1, s2, s3, s4, s5, s6, s7, s8, s9, s10⟩
                  go_simp
                  with_reducible rfl
                 rotate_left
                 ·simp only [Act.put, List.setIfInBounds_toArray, List.set_cons_zero, List.set_cons_succ, i64_w, i32_w]
                  rfl
                 refine take_ (i := 7) (N := some 125) (v := ?_) (a' := ?_) #[true, true, true, true, true, true, false, true, true, false, true, false, false, false, false, false] rfl rfl (take_ofW HT_.out HW_.out (by kernel_rfl)) (fun _ _ _ h => h) (Or.inl ⟨by rfl, ?_⟩) hHeld ?_ ?_
                 rotate_left
                 ·rintro w' ⟨s0, s1, s2, s3, s4, s5, s6, s7, s8, s9, s10⟩
                  go_simp
                  with_reducible rfl
                 rotate_left
                 ·simp only [Act.put, List.setIfInBounds_toArray, List.set_cons_zero, List.set_cons_succ, i64_w, i32_w]
                  rfl
                 refine take_ (i := 9) (N := some 127) (v := ?_) (a' := ?_) #[true, true, true, true, true, true, false, true, true, true, true, false, false, false, false, false] rfl rfl (take_ofW HT_.out HW_.out (by kernel_rfl)) (fun _ _ _ h => h) (Or.inl ⟨by rfl, ?_⟩) hHeld ?_ ?_
                 rotate_left
                 ·rintro w' ⟨s0, s1, s2, s3, s4, s5, s6, s7, s8, s9, s10⟩
                  go_simp
                  with_reducible rfl
                 rotate_left
                 ·simp only [Act.put, List.setIfInBounds_toArray, List.set_cons_zero, List.set_cons_succ, i64_w, i32_w]
                  rfl
                 refine pure_ (i := 11) (N := some 129) (v := ?_) (a' := ?_) #[true, true, true, true, true, true, false, true, true, true, true, true, false, false, false, false] rfl rfl (any_of HT_.out (by kernel_rfl)) (fun _ _ _ h => h) (Or.inl ⟨by rfl, ?_⟩) ?_ ?_
                 rotate_left
                 ·intro w'
                  go_simp
                  with_reducible rfl
                 rotate_left
                 ·simp only [Act.put, List.setIfInBounds_toArray, List.set_cons_zero, List.set_cons_succ, i64_w, i32_w]
                  rfl
                 refine take_ (i := 12) (N := some 130) (v := ?_) (a' := ?_) #[true, true, true, true, true, true, false, true, true, true, true, true, true, false, false, false] rfl rfl (take_ofW HT_.out HW_.out (by kernel_rfl)) (fun _ _ _ h => h) (Or.inl ⟨by rfl, ?_⟩) hHeld ?_ ?_
                 rotate_left
                 ·rintro w' ⟨s0, s1, s2, s3, s4, s5, s6, s7, s8, s9, s10⟩
                  go_simp
                  with_reducible rfl
                 rotate_left
                 ·simp only [Act.put, List.setIfInBounds_toArray, List.set_cons_zero, List.set_cons_succ, i64_w, i32_w]
                  rfl
                 refine one_ (i := 6) (N := some 124) #[true, true, true, true, true, true, true, true, true, true, true, true, true, false, false, false] rfl rfl (one_of HT_.out (by kernel_rfl)) (by decide) (fun K hK => ?_)
                 refine goes_ Try.func44 (by kernel_rfl) rfl #[.agg #[.slice (some ad37) l0_0.length c0_0, .slice (some ad15) l0_1.length c0_1, .slice A0_2 l0_2.length c0_2], .agg #[.bool ((rd_T48 l0_0 a1).f0), .int .i64 ((rd_T48 l0_0 a1).f1), .int .i64 ((rd_T48 l0_0 a1).f2), .int .i64 ((rd_T48 l0_0 a1).f3)]] (by rfl) rfl rfl (by (try simp only [List.map_toArray, List.map_cons, List.map_nil]); first | done | rfl | (simp only [List.length_drop, List.length_take]; rfl)) ?_
                 with_reducible refine (memo_Canon.calls k2 _ _ l0_0 _ _ l0_1 _ _ l0_2 ((rd_T48 l0_0 a1).f0) ((rd_T48 l0_0 a1).f1) ((rd_T48 l0_0 a1).f2) ((rd_T48 l0_0 a1).f3) t38 t39 t40 t41 _ ?side1 ?side2 ?side3 ?side4 ?side5 ?side6 A71.out).mono ?_
                 (case side1 => repeat (first | exact (Kd.C_below HR0_0.out HB.out) | (with_reducible refine Kd.C_alloc ?_ _) | (with_reducible refine Kd.C_drewN ?_ _) | (with_reducible refine Kd.C_drew ?_)))
                 (case side2 => exact HC0_0.out)
                 (case side3 => repeat (first | exact (Kd.C_below HR0_1.out HB.out) | (with_reducible refine Kd.C_alloc ?_ _) | (with_reducible refine Kd.C_drewN ?_ _) | (with_reducible refine Kd.C_drew ?_)))
                 (case side4 => exact HC0_1.out)
                 (case side5 => repeat (first | exact (Kd.C_below HR0_2.out HB.out) | (with_reducible refine Kd.C_alloc ?_ _) | (with_reducible refine Kd.C_drewN ?_ _) | (with_reducible refine Kd.C_drew ?_)))
                 (case side6 => exact HC0_2.out)
                 rintro e w83 ⟨rfl, hb⟩
                 refine ⟨_, rfl, ?_⟩
                 have n0_ := Aside0.mk (Kd.R_below (by (with_reducible repeat (first | apply Kd.R_alloc | apply Kd.R_drewN | apply Kd.R_drew)); exact HO_9.out) hb)
                 have n1_ := Aside0.mk (blk_below (g := gb11) (o := .cells #[.slice (some ad37) l0_0.length c0_0, .slice (some ad15) l0_1.length c0_1, .slice A0_2 l0_2.length c0_2] 38 (0, 0)) (by (with_reducible repeat (first | refine blk_drewN ?_ _ | refine blk_drew ?_ | refine blk_alloc ?_ _)); exact BK11.out) hb)
                 have n2_ := Aside0.mk (below_step (by repeat (first | (with_reducible first | exact HB.out | apply below_alloc | apply pw_below_drewN | apply below_drew1 | refine below_set ?_ GE11.out) | exact HB.out)) hb)
                 clear HO_9
                 clear BK11
                 clear HB
                 have HO_9 := n0_
                 have BK11 := n1_
                 have HB := n2_
                 clear n0_ n1_ n2_
                 (try clear hb)
                 (try clear hb2)
                 (try clear hk)
                 (try clear hi)
                 refine hK.out _ _ ⟨(blk_cell BK11.out 0).trans rfl, (blk_cell BK11.out 1).trans rfl, (blk_cell BK11.out 2).trans rfl, ((HB.out.cell (World.block_lt_of_cell? w _ hw37_0)).trans hw37_0), ((HB.out.cell (World.block_lt_of_cell? w _ hw37_1)).trans hw37_1), ((HB.out.cell (World.block_lt_of_cell? w _ hw37_2)).trans hw37_2), ((HB.out.cell (World.block_lt_of_cell? w _ hw37_3)).trans hw37_3), ((HB.out.cell (World.block_lt_of_cell? w _ hw42_0)).trans hw42_0), ((HB.out.cell (World.block_lt_of_cell? w _ hw42_1)).trans hw42_1), ((HB.out.cell (World.block_lt_of_cell? w _ hw42_2)).trans hw42_2), ((HB.out.cell (World.block_lt_of_cell? w _ hw42_3)).trans hw42_3)⟩ (fun hHeld => ?_)
                 clear hK K
                 refine norm_ (a' := ?_) ?_ ?_
                 rotate_left
                 ·show Act.put _ (some 124) _ = _
                  simp only [Act.put, List.setIfInBounds_toArray, List.set_cons_zero, List.set_cons_succ, i64_w, i32_w]
                  rfl
                 refine one_ (i := 13) (N := some 131) #[true, true, true, true, true, true, true, true, true, true, true, true, true, true, false, false] rfl rfl (one_of HT_.out (by kernel_rfl)) (by decide) (fun K hK => ?_)
                 refine goes_ Try.func44 (by kernel_rfl) rfl #[.agg #[.slice (some ad37) l0_0.length c0_0, .slice (some ad15) l0_1.length c0_1, .slice A0_2 l0_2.length c0_2], .agg #[.bool ((rd_T48 l0_0 a2).f0), .int .i64 ((rd_T48 l0_0 a2).f1), .int .i64 ((rd_T48 l0_0 a2).f2), .int .i64 ((rd_T48 l0_0 a2).f3)]] (by rfl) rfl rfl (by (try simp only [List.map_toArray, List.map_cons, List.map_nil]); first | done | rfl | (simp only [List.length_drop, List.length_take]; rfl)) ?_
                 with_reducible refine (memo_Canon.calls k2 _ _ l0_0 _ _ l0_1 _ _ l0_2 ((rd_T48 l0_0 a2).f0) ((rd_T48 l0_0 a2).f1) ((rd_T48 l0_0 a2).f2) ((rd_T48 l0_0 a2).f3) t43 t44 t45 t46 _ ?side1 ?side2 ?side3 ?side4 ?side5 ?side6 A74.out).mono ?_
                 (case side1 => repeat (first | exact (Kd.C_below HR0_0.out HB.out) | (with_reducible refine Kd.C_alloc ?_ _) | (with_reducible refine Kd.C_drewN ?_ _) | (with_reducible refine Kd.C_drew ?_)))
                 (case side2 => exact HC0_0.out)
                 (case side3 => repeat (first | exact (Kd.C_below HR0_1.out HB.out) | (with_reducible refine Kd.C_alloc ?_ _) | (with_reducible refine Kd.C_drewN ?_ _) | (with_reducible refine Kd.C_drew ?_)))
                 (case side4 => exact HC0_1.out)
                 (case side5 => repeat (first | exact (Kd.C_below HR0_2.out HB.out) | (with_reducible refine Kd.C_alloc ?_ _) | (with_reducible refine Kd.C_drewN ?_ _) | (with_reducible refine Kd.C_drew ?_)))
                 (case side6 => exact HC0_2.out)
                 rintro e w84 ⟨rfl, hb⟩
                 refine ⟨_, rfl, ?_⟩
                 have n0_ := Aside0.mk (Kd.R_below (by (with_reducible repeat (first | apply Kd.R_alloc | apply Kd.R_drewN | apply Kd.R_drew)); exact HO_9.out) hb)
                 have n1_ := Aside0.mk (blk_below (g := gb11) (o := .cells #[.slice (some ad37) l0_0.length c0_0, .slice (some ad15) l0_1.length c0_1, .slice A0_2 l0_2.length c0_2] 38 (0, 0)) (by (with_reducible repeat (first | refine blk_drewN ?_ _ | refine blk_drew ?_ | refine blk_alloc ?_ _)); exact BK11.out) hb)
                 have n2_ := Aside0.mk (below_step (by repeat (first | (with_reducible first | exact HB.out | apply below_alloc | apply pw_below_drewN | apply below_drew1 | refine below_set ?_ GE11.out) | exact HB.out)) hb)
                 clear HO_9
                 clear BK11
                 clear HB
                 have HO_9 := n0_
                 have BK11 := n1_
                 have HB := n2_
                 clear n0_ n1_ n2_
                 (try clear hb)
                 (try clear hb2)
                 (try clear hk)
                 (try clear hi)
                 refine hK.out _ _ ⟨(blk_cell BK11.out 0).trans rfl, (blk_cell BK11.out 1).trans rfl, (blk_cell BK11.out 2).trans rfl, ((HB.out.cell (World.block_lt_of_cell? w _ hw37_0)).trans hw37_0), ((HB.out.cell (World.block_lt_of_cell? w _ hw37_1)).trans hw37_1), ((HB.out.cell (World.block_lt_of_cell? w _ hw37_2)).trans hw37_2), ((HB.out.cell (World.block_lt_of_cell? w _ hw37_3)).trans hw37_3), ((HB.out.cell (World.block_lt_of_cell? w _ hw42_0)).trans hw42_0), ((HB.out.cell (World.block_lt_of_cell? w _ hw42_1)).trans hw42_1), ((HB.out.cell (World.block_lt_of_cell? w _ hw42_2)).trans hw42_2), ((HB.out.cell (World.block_lt_of_cell? w _ hw42_3)).trans hw42_3)⟩ (fun hHeld => ?_)
                 clear hK K
                 refine norm_ (a' := ?_) ?_ ?_
                 rotate_left
                 ·show Act.put _ (some 131) _ = _
                  simp only [Act.put, List.setIfInBounds_toArray, List.set_cons_zero, List.set_cons_succ, i64_w, i32_w]
                  rfl
                 refine pure_ (i := 14) (N := some 132) (v := ?_) (a' := ?_) #[true, true, true, true, true, true, true, true, true, true, true, true, true, true, true, false] rfl rfl (any_of HT_.out (by kernel_rfl)) (fun _ _ _ h => h) (Or.inl ⟨by rfl, ?_⟩) ?_ ?_
                 rotate_left
                 ·intro w'
                  go_simp
                  with_reducible rfl
                 rotate_left
                 ·simp only [Act.put, List.setIfInBounds_toArray, List.set_cons_zero, List.set_cons_succ, i64_w, i32_w]
                  rfl
                 refine pure_ (i := 15) (N := some 12) (v := ?_) (a' := ?_) #[true, true, true, true, true, true, true, true, true, true, true, true, true, true, true, true] rfl rfl (any_of HT_.out (by kernel_rfl)) (fun _ _ _ h => h) (Or.inl ⟨by rfl, ?_⟩) ?_ ?_
                 rotate_left
                 ·intro w'
                  go_simp
                  with_reducible rfl
                 rotate_left
                 ·simp only [Act.put, List.setIfInBounds_toArray, List.set_cons_zero, List.set_cons_succ, i64_w, i32_w]
                  rfl
                 refine done_ (done_of HT_.out (by kernel_rfl)) ?_
                 try go_wp2
                 have n0_ := Aside0.mk (Kd.R_drew HO_9.out)
                 have n1_ := Aside0.mk (blk_drew BK11.out)
                 have n2_ := Aside0.mk (below_drew1 HB.out)
                 clear HO_9
                 clear BK11
                 clear HB
                 have HO_9 := n0_
                 have BK11 := n1_
                 have HB := n2_
                 clear n0_ n1_ n2_
                 have p47 : 0 ≤ (a1 : Int) := of_decide_eq_true (by first | (with_reducible assumption) | assumption)
                 have q47 : a1 < (l0_1.length : Int) := of_decide_eq_true (by first | (with_reducible assumption) | assumption)
                 obtain ⟨ad47, e47, hx47_0⟩ := Kd.at_int HR0_1.out a1 p47 q47
                 have hw47_0 := hx47_0
                 obtain rfl : ad15 = ad47 := (by injection e47)
                 replace hx47_0 := (HB.out.cell (World.block_lt_of_cell? w _ hx47_0)).trans hx47_0
                 replace p47 := eq_true p47
                 replace q47 := eq_true q47
                 have p49 : 0 ≤ (a2 : Int) := of_decide_eq_true (by first | (with_reducible assumption) | assumption)
                 have q49 : a2 < (l0_1.length : Int) := of_decide_eq_true (by first | (with_reducible assumption) | assumption)
                 obtain ⟨ad49, e49, hx49_0⟩ := Kd.at_int HR0_1.out a2 p49 q49
                 have hw49_0 := hx49_0
                 obtain rfl : ad15 = ad49 := (by injection e49)
                 replace hx49_0 := (HB.out.cell (World.block_lt_of_cell? w _ hx49_0)).trans hx49_0
                 replace p49 := eq_true p49
                 replace q49 := eq_true q49
                 refine start_ (n := 24) (S := fun w' => w'.cell? ⟨gb11, 0, none⟩ = some (.slice (some ad37) l0_0.length c0_0) ∧ w'.cell? ⟨gb11, 1, none⟩ = some (.slice (some ad15) l0_1.length c0_1) ∧ w'.cell? ⟨gb11, 2, none⟩ = some (.slice A0_2 l0_2.length c0_2) ∧ w'.cell? (ad15.add (a1).toNat) = some (.int .i64 (rd l0_1 a1)) ∧ w'.cell? (ad15.add (a2).toNat) = some (.int .i64 (rd l0_1 a2))) (ds := []) #[false, false, false, false, false, false, false, false, false, false, false, false, false, false, false, false, false, false, false, false, false, false, false, false] (by kernel_rfl) rfl rfl ⟨(blk_cell BK11.out 0).trans rfl, (blk_cell BK11.out 1).trans rfl, (blk_cell BK11.out 2).trans rfl, ((HB.out.cell (World.block_lt_of_cell? w _ hw47_0)).trans hw47_0), ((HB.out.cell (World.block_lt_of_cell? w _ hw49_0)).trans hw49_0)⟩ (fun hHeld => ?_); refine with_tabW roadbooklaw16_MemoOf.tab15 roadbooklaw16_MemoOf.bits15 (fun HT_ HW_ => ?_)
                 generalize w84.drew = w85 at HO_9 BK11 HB hx47_0 hx49_0 hHeld ⊢
                 refine pure_ (i := 0) (N := some 133) (v := ?_) (a' := ?_) #[true, false, false, false, false, false, false, false, false, false, false, false, false, false, false, false, false, false, false, false, false, false, false, false] rfl rfl (any_of HT_.out (by kernel_rfl)) (fun _ _ _ h => h) (Or.inl ⟨by rfl, ?_⟩) ?_ ?_
                 rotate_left
                 ·intro w'
                  go_simp
                  with_reducible rfl
                 rotate_left
                 ·simp only [Act.put, List.setIfInBounds_toArray, List.set_cons_zero, List.set_cons_succ, i64_w, i32_w]
                  rfl
                 refine pure_ (i := 1) (N := some 134) (v := ?_) (a' := ?_) #[true, true, false, false, false, false, false, false, false, false, false, false, false, false, false, false, false, false, false, false, false, false, false, false] rfl rfl (any_of HT_.out (by kernel_rfl)) (fun _ _ _ h => h) (Or.inl ⟨by rfl, ?_⟩) ?_ ?_
                 rotate_left
                 ·intro w'
                  go_simp
                  with_reducible rfl
                 rotate_left
                 ·simp only [Act.put, List.setIfInBounds_toArray, List.set_cons_zero, List.set_cons_succ, i64_w, i32_w]
                  rfl
                 refine pure_ (i := 2) (N := some 135) (v := ?_) (a' := ?_) #[true, true, true, false, false, false, false, false, false, false, false, false, false, false, false, false, false, false, false, false, false, false, false, false] rfl rfl (any_of HT_.out (by kernel_rfl)) (fun _ _ _ h => h) (Or.inl ⟨by rfl, ?_⟩) ?_ ?_
                 rotate_left
                 ·intro w'
                  go_simp
                  with_reducible rfl
                 rotate_left
                 ·simp only [Act.put, List.setIfInBounds_toArray, List.set_cons_zero, List.set_cons_succ, i64_w, i32_w]
                  rfl
                 refine pure_ (i := 3) (N := some 136) (v := ?_) (a' := ?_) #[true, true, true, true, false, false, false, false, false, false, false, false, false, false, false, false, false, false, false, false, false, false, false, false] rfl rfl (any_of HT_.out (by kernel_rfl)) (fun _ _ _ h => h) (Or.inl ⟨by rfl, ?_⟩) ?_ ?_
                 rotate_left
                 ·intro w'
                  go_simp
                  with_reducible rfl
                 rotate_left
                 ·simp only [Act.put, List.setIfInBounds_toArray, List.set_cons_zero, List.set_cons_succ, i64_w, i32_w]
                  rfl
                 refine pure_ (i := 4) (N := some 137) (v := ?_) (a' := ?_) #[true, true, true, true, true, false, false, false, false, false, false, false, false, false, false, false, false, false, false, false, false, false, false, false] rfl rfl (any_of HT_.out (by kernel_rfl)) (fun _ _ _ h => h) (Or.inl ⟨by rfl, ?_⟩) ?_ ?_
                 rotate_left
                 ·intro w'
                  go_simp
                  with_reducible rfl
                 rotate_left
                 ·simp only [Act.put, List.setIfInBounds_toArray, List.set_cons_zero, List.set_cons_succ, i64_w, i32_w]
                  rfl
                 refine pure_ (i := 5) (N := some 138) (v := ?_) (a' := ?_) #[true, true, true, true, true, true, false, false, false, false, false, false, false, false, false, false, false, false, false, false, false, false, false, false] rfl rfl (any_of HT_.out (by kernel_rfl)) (fun _ _ _ h => h) (Or.inl ⟨by rfl, ?_⟩) ?_ ?_
                 rotate_left
                 ·intro w'
                  go_simp
                  with_reducible rfl
                 rotate_left
                 ·simp only [Act.put, List.setIfInBounds_toArray, List.set_cons_zero, List.set_cons_succ, i64_w, i32_w]
                  rfl
                 refine pure_ (i := 7) (N := some 140) (v := ?_) (a' := ?_) #[true, true, true, true, true, true, false, true, false, false, false, false, false, false, false, false, false, false, false, false, false, false, false, false] rfl rfl (any_of HT_.out (by kernel_rfl)) (fun _ _ _ h => h) (Or.inl ⟨by rfl, ?_⟩) ?_ ?_
                 rotate_left
                 ·intro w'
                  go_simp
                  with_reducible rfl
                 rotate_left
                 ·simp only [Act.put, List.setIfInBounds_toArray, List.set_cons_zero, List.set_cons_succ, i64_w, i32_w]
                  rfl
                 refine pure_ (i := 9) (N := some 142) (v := ?_) (a' := ?_) #[true, true, true, true, true, true, false, true, false, true, false, false, false, false, false, false, false, false, false, false, false, false, false, false] rfl rfl (any_of HT_.out (by kernel_rfl)) (fun _ _ _ h => h) (Or.inl ⟨by rfl, ?_⟩) ?_ ?_
                 rotate_left
                 ·intro w'
                  go_simp
                  with_reducible rfl
                 rotate_left
                 ·simp only [Act.put, List.setIfInBounds_toArray, List.set_cons_zero, List.set_cons_succ, i64_w, i32_w]
                  rfl
                 refine pure_ (i := 14) (N := some 147) (v := ?_) (a' := ?_) #[true, true, true, true, true, true, false, true, false, true, false, false, false, false, true, false, false, false, false, false, false, false, false, false] rfl rfl (any_of HT_.out (by kernel_rfl)) (fun _ _ _ h => h) (Or.inl ⟨by rfl, ?_⟩) ?_ ?_
                 rotate_left
                 ·intro w'
                  go_simp
                  with_reducible rfl
                 rotate_left
                 ·simp only [Act.put, List.setIfInBounds_toArray, List.set_cons_zero, List.set_cons_succ, i64_w, i32_w]
                  rfl
                 refine pure_ (i := 16) (N := some 149) (v := ?_) (a' := ?_) #[true, true, true, true, true, true, false, true, false, true, false, false, false, false, true, false, true, false, false, false, false, false, false, false] rfl rfl (any_of HT_.out (by kernel_rfl)) (fun _ _ _ h => h) (Or.inl ⟨by rfl, ?_⟩) ?_ ?_
                 rotate_left
                 ·intro w'
                  go_simp
                  with_reducible rfl
                 rotate_left
                 ·simp only [Act.put, List.setIfInBounds_toArray, List.set_cons_zero, List.set_cons_succ, i64_w, i32_w]
                  rfl
                 refine take_ (i := 6) (N := some 139) (v := ?_) (a' := ?_) #[true, true, true, true, true, true, true, true, false, true, false, false, false, false, true, false, true, false, false, false, false, false, false, false] rfl rfl (take_ofW HT_.out HW_.out (by kernel_rfl)) (fun _ _ _ h => h) (Or.inl ⟨by rfl, ?_⟩) hHeld ?_ ?_
                 rotate_left
                 ·rintro w' ⟨s0, s1, s2, s3, s4⟩
                  go_simp
                  with_reducible rfl
                 rotate_left
                 ·simp only [Act.put, List.setIfInBounds_toArray, List.set_cons_zero, List.set_cons_succ, i64_w, i32_w]
                  rfl
                 refine take_ (i := 8) (N := some 141) (v := ?_) (a' := ?_) #[true, true, true, true, true, true, true, true, true, true, false, false, false, false, true, false, true, false, false, false, false, false, false, false] rfl rfl (take_ofW HT_.out HW_.out (by kernel_rfl)) (fun _ _ _ h => h) (Or.inl ⟨by rfl, ?_⟩) hHeld ?_ ?_
                 rotate_left
                 ·rintro w' ⟨s0, s1, s2, s3, s4⟩
                  go_simp
                  with_reducible rfl
                 rotate_left
                 ·simp only [Act.put, List.setIfInBounds_toArray, List.set_cons_zero, List.set_cons_succ, i64_w, i32_w]
                  rfl
                 refine pure_ (i := 10) (N := some 143) (v := ?_) (a' := ?_) #[true, true, true, true, true, true, true, true, true, true, true, false, false, false, true, false, true, false, false, false, false, false, false, false] rfl rfl (any_of HT_.out (by kernel_rfl)) (fun _ _ _ h => h) (Or.inl ⟨by rfl, ?_⟩) ?_ ?_
                 rotate_left
                 ·intro w'
                  go_simp
                  with_reducible rfl
                 rotate_left
                 ·simp only [Act.put, List.setIfInBounds_toArray, List.set_cons_zero, List.set_cons_succ, i64_w, i32_w]
                  rfl
                 refine take_ (i := 11) (N := some 144) (v := ?_) (a' := ?_) #[true, true, true, true, true, true, true, true, true, true, true, true, false, false, true, false, true, false, false, false, false, false, false, false] rfl rfl (take_ofW HT_.out HW_.out (by kernel_rfl)) (fun _ _ _ h => h) (Or.inl ⟨by rfl, ?_⟩) hHeld ?_ ?_
                 rotate_left
                 ·rintro w' ⟨s0, s1, s2, s3, s4⟩
                  go_simp
                  with_reducible rfl
                 rotate_left
                 ·simp only [Act.put, List.setIfInBounds_toArray, List.set_cons_zero, List.set_cons_succ, i64_w, i32_w]
                  rfl
                 refine take_ (i := 13) (N := some 146) (v := ?_) (a' := ?_) #[true, true, true, true, true, true, true, true, true, true, true, true, false, true, true, false, true, false, false, false, false, false, false, false] rfl rfl (take_ofW HT_.out HW_.out (by kernel_rfl)) (fun _ _ _ h => h) (Or.inl ⟨by rfl, ?_⟩) hHeld ?_ ?_
                 rotate_left
                 ·rintro w' ⟨s0, s1, s2, s3, s4⟩
                  go_simp
                  with_reducible rfl
                 rotate_left
                 ·simp only [Act.put, List.setIfInBounds_toArray, List.set_cons_zero, List.set_cons_succ, i64_w, i32_w]
                  rfl
                 refine take_ (i := 15) (N := some 148) (v := ?_) (a' := ?_) #[true, true, true, true, true, true, true, true, true, true, true, true, false, true, true, true, true, false, false, false, false, false, false, false] rfl rfl (take_ofW HT_.out HW_.out (by kernel_rfl)) (fun _ _ _ h => h) (Or.inl ⟨by rfl, ?_⟩) hHeld ?_ ?_
                 rotate_left
                 ·rintro w' ⟨s0, s1, s2, s3, s4⟩
                  go_simp
                  with_reducible rfl
                 rotate_left
                 ·simp only [Act.put, List.setIfInBounds_toArray, List.set_cons_zero, List.set_cons_succ, i64_w, i32_w]
                  rfl
                 refine pure_ (i := 17) (N := some 150) (v := ?_) (a' := ?_) #[true, true, true, true, true, true, true, true, true, true, true, true, false, true, true, true, true, true, false, false, false, false, false, false] rfl rfl (any_of HT_.out (by kernel_rfl)) (fun _ _ _ h => h) (Or.inl ⟨by rfl, ?_⟩) ?_ ?_
                 rotate_left
                 ·intro w'
                  go_simp
                  with_reducible rfl
                 rotate_left
                 ·simp only [Act.put, List.setIfInBounds_toArray, List.set_cons_zero, List.set_cons_succ, i64_w, i32_w]
                  rfl
                 refine take_ (i := 18) (N := some 151) (v := ?_) (a' := ?_) #[true, true, true, true, true, true, true, true, true, true, true, true, false, true, true, true, true, true, true, false, false, false, false, false] rfl rfl (take_ofW HT_.out HW_.out (by kernel_rfl)) (fun _ _ _ h => h) (Or.inl ⟨by rfl, ?_⟩) hHeld ?_ ?_
                 rotate_left
                 ·rintro w' ⟨s0, s1, s2, s3, s4⟩
                  go_simp
                  with_reducible rfl
                 rotate_left
                 ·simp only [Act.put, List.setIfInBounds_toArray, List.set_cons_zero, List.set_cons_succ, i64_w, i32_w]
                  rfl
                 refine one_ (i := 12) (N := some 145) #[true, true, true, true, true, true, true, true, true, true, true, true, true, true, true, true, true, true, true, false, false, false, false, false] rfl rfl (one_of HT_.out (by kernel_rfl)) (by decide) (fun K hK => ?_)
                 refine goes_ Try.func42 (by kernel_rfl) rfl #[.agg #[.slice (some ad37) l0_0.length c0_0, .slice (some ad15) l0_1.length c0_1, .slice A0_2 l0_2.length c0_2], .int .i64 (rd l0_1 a1)] (by rfl) rfl rfl (by (try simp only [List.map_toArray, List.map_cons, List.map_nil]); first | done | rfl | (simp only [List.length_drop, List.length_take]; rfl)) ?_
                 with_reducible refine (memo_Find.calls k2 _ _ l0_0 _ _ l0_1 _ _ l0_2 (rd l0_1 a1) t48 _ ?side1 ?side2 ?side3 ?side4 ?side5 ?side6 A78.out).mono ?_
                 (case side1 => repeat (first | exact (Kd.C_below HR0_0.out HB.out) | (with_reducible refine Kd.C_alloc ?_ _) | (with_reducible refine Kd.C_drewN ?_ _) | (with_reducible refine Kd.C_drew ?_)))
                 (case side2 => exact HC0_0.out)
                 (case side3 => repeat (first | exact (Kd.C_below HR0_1.out HB.out) | (with_reducible refine Kd.C_alloc ?_ _) | (with_reducible refine Kd.C_drewN ?_ _) | (with_reducible refine Kd.C_drew ?_)))
                 (case side4 => exact HC0_1.out)
                 (case side5 => repeat (first | exact (Kd.C_below HR0_2.out HB.out) | (with_reducible refine Kd.C_alloc ?_ _) | (with_reducible refine Kd.C_drewN ?_ _) | (with_reducible refine Kd.C_drew ?_)))
                 (case side6 => exact HC0_2.out)
                 rintro e w86 ⟨rfl, hb⟩
                 refine ⟨_, rfl, ?_⟩
                 have n0_ := Aside0.mk (Kd.R_below (by (with_reducible repeat (first | apply Kd.R_alloc | apply Kd.R_drewN | apply Kd.R_drew)); exact HO_9.out) hb)
                 have n1_ := Aside0.mk (blk_below (g := gb11) (o := .cells #[.slice (some ad37) l0_0.length c0_0, .slice (some ad15) l0_1.length c0_1, .slice A0_2 l0_2.length c0_2] 38 (0, 0)) (by (with_reducible repeat (first | refine blk_drewN ?_ _ | refine blk_drew ?_ | refine blk_alloc ?_ _)); exact BK11.out) hb)
                 have n2_ := Aside0.mk (below_step (by repeat (first | (with_reducible first | exact HB.out | apply below_alloc | apply pw_below_drewN | apply below_drew1 | refine below_set ?_ GE11.out) | exact HB.out)) hb)
                 clear HO_9
                 clear BK11
                 clear HB
                 have HO_9 := n0_
                 have BK11 := n1_
                 have HB := n2_
                 clear n0_ n1_ n2_
                 (try clear hb)
                 (try clear hb2)
                 (try clear hk)
                 (try clear hi)
                 refine hK.out _ _ ⟨(blk_cell BK11.out 0).trans rfl, (blk_cell BK11.out 1).trans rfl, (blk_cell BK11.out 2).trans rfl, ((HB.out.cell (World.block_lt_of_cell? w _ hw47_0)).trans hw47_0), ((HB.out.cell (World.block_lt_of_cell? w _ hw49_0)).trans hw49_0)⟩ (fun hHeld => ?_)
                 clear hK K
                 refine norm_ (a' := ?_) ?_ ?_
                 rotate_left
                 ·show Act.put _ (some 145) _ = _
                  simp only [Act.put, List.setIfInBounds_toArray, List.set_cons_zero, List.set_cons_succ, i64_w, i32_w]
                  rfl
                 refine one_ (i := 19) (N := some 152) #[true, true, true, true, true, true, true, true, true, true, true, true, true, true, true, true, true, true, true, true, false, false, false, false] rfl rfl (one_of HT_.out (by kernel_rfl)) (by decide) (fun K hK => ?_)
                 refine goes_ Try.func42 (by kernel_rfl) rfl #[.agg #[.slice (some ad37) l0_0.length c0_0, .slice (some ad15) l0_1.length c0_1, .slice A0_2 l0_2.length c0_2], .int .i64 (rd l0_1 a2)] (by rfl) rfl rfl (by (try simp only [List.map_toArray, List.map_cons, List.map_nil]); first | done | rfl | (simp only [List.length_drop, List.length_take]; rfl)) ?_
                 with_reducible refine (memo_Find.calls k2 _ _ l0_0 _ _ l0_1 _ _ l0_2 (rd l0_1 a2) t50 _ ?side1 ?side2 ?side3 ?side4 ?side5 ?side6 A80.out).mono ?_
                 (case side1 => repeat (first | exact (Kd.C_below HR0_0.out HB.out) | (with_reducible refine Kd.C_alloc ?_ _) | (with_reducible refine Kd.C_drewN ?_ _) | (with_reducible refine Kd.C_drew ?_)))
                 (case side2 => exact HC0_0.out)
                 (case side3 => repeat (first | exact (Kd.C_below HR0_1.out HB.out) | (with_reducible refine Kd.C_alloc ?_ _) | (with_reducible refine Kd.C_drewN ?_ _) | (with_reducible refine Kd.C_drew ?_)))
                 (case side4 => exact HC0_1.out)
                 (case side5 => repeat (first | exact (Kd.C_below HR0_2.out HB.out) | (with_reducible refine Kd.C_alloc ?_ _) | (with_reducible refine Kd.C_drewN ?_ _) | (with_reducible refine Kd.C_drew ?_)))
                 (case side6 => exact HC0_2.out)
                 rintro e w87 ⟨rfl, hb⟩
                 refine ⟨_, rfl, ?_⟩
                 have n0_ := Aside0.mk (Kd.R_below (by (with_reducible repeat (first | apply Kd.R_alloc | apply Kd.R_drewN | apply Kd.R_drew)); exact HO_9.out) hb)
                 have n1_ := Aside0.mk (blk_below (g := gb11) (o := .cells #[.slice (some ad37) l0_0.length c0_0, .slice (some ad15) l0_1.length c0_1, .slice A0_2 l0_2.length c0_2] 38 (0, 0)) (by (with_reducible repeat (first | refine blk_drewN ?_ _ | refine blk_drew ?_ | refine blk_alloc ?_ _)); exact BK11.out) hb)
                 have n2_ := Aside0.mk (below_step (by repeat (first | (with_reducible first | exact HB.out | apply below_alloc | apply pw_below_drewN | apply below_drew1 | refine below_set ?_ GE11.out) | exact HB.out)) hb)
                 clear HO_9
                 clear BK11
                 clear HB
                 have HO_9 := n0_
                 have BK11 := n1_
                 have HB := n2_
                 clear n0_ n1_ n2_
                 (try clear hb)
                 (try clear hb2)
                 (try clear hk)
                 (try clear hi)
                 refine hK.out _ _ ⟨(blk_cell BK11.out 0).trans rfl, (blk_cell BK11.out 1).trans rfl, (blk_cell BK11.out 2).trans rfl, ((HB.out.cell (World.block_lt_of_cell? w _ hw47_0)).trans hw47_0), ((HB.out.cell (World.block_lt_of_cell? w _ hw49_0)).trans hw49_0)⟩ (fun hHeld => ?_)
                 clear hK K
                 refine norm_ (a' := ?_) ?_ ?_
                 rotate_left
                 ·show Act.put _ (some 152) _ = _
                  simp only [Act.put, List.setIfInBounds_toArray, List.set_cons_zero, List.set_cons_succ, i64_w, i32_w]
                  rfl
                 refine pure_ (i := 20) (N := some 153) (v := ?_) (a' := ?_) #[true, true, true, true, true, true, true, true, true, true, true, true, true, true, true, true, true, true, true, true, true, false, false, false] rfl rfl (any_of HT_.out (by kernel_rfl)) (fun _ _ _ h => h) (Or.inl ⟨by rfl, ?_⟩) ?_ ?_
                 rotate_left
                 ·intro w'
                  go_simp
                  with_reducible rfl
                 rotate_left
                 ·simp only [Act.put, List.setIfInBounds_toArray, List.set_cons_zero, List.set_cons_succ, i64_w, i32_w]
                  rfl
                 refine pure_ (i := 21) (N := some 154) (v := ?_) (a' := ?_) #[true, true, true, true, true, true, true, true, true, true, true, true, true, true, true, true, true, true, true, true, true, true, false, false] rfl rfl (any_of HT_.out (by kernel_rfl)) (fun _ _ _ h => h) (Or.inl ⟨by rfl, ?_⟩) ?_ ?_
                 rotate_left
                 ·intro w'
                  go_simp
                  with_reducible rfl
                 rotate_left
                 ·simp only [Act.put, List.setIfInBounds_toArray, List.set_cons_zero, List.set_cons_succ, i64_w, i32_w]
                  rfl
                 refine pure_ (i := 22) (N := some 155) (v := ?_) (a' := ?_) #[true, true, true, true, true, true, true, true, true, true, true, true, true, true, true, true, true, true, true, true, true, true, true, false] rfl rfl (any_of HT_.out (by kernel_rfl)) (fun _ _ _ h => h) (Or.inl ⟨by rfl, ?_⟩) ?_ ?_
                 rotate_left
                 ·intro w'
                  go_simp
                  with_reducible rfl
                 rotate_left
                 ·simp only [Act.put, List.setIfInBounds_toArray, List.set_cons_zero, List.set_cons_succ, i64_w, i32_w]
                  rfl
                 refine pure_ (i := 23) (N := some 6) (v := ?_) (a' := ?_) #[true, true, true, true, true, true, true, true, true, true, true, true, true, true, true, true, true, true, true, true, true, true, true, true] rfl rfl (any_of HT_.out (by kernel_rfl)) (fun _ _ _ h => h) (Or.inl ⟨by rfl, ?_⟩) ?_ ?_
                 rotate_left
                 ·intro w'
                  go_simp
                  with_reducible rfl
                 rotate_left
                 ·simp only [Act.put, List.setIfInBounds_toArray, List.set_cons_zero, List.set_cons_succ, i64_w, i32_w]
                  rfl
                 refine done_ (done_of HT_.out (by kernel_rfl)) ?_
                 try go_wp2
                 go_ret
                 exact ⟨by first | rfl | (simp [errW_none, errW_some] <;> rfl) | (simp [*, errW_none, errW_some] <;> rfl), by repeat (first | (with_reducible first | exact HB.out | apply below_alloc | apply pw_below_drewN | apply below_drew1 | refine below_set ?_ GE11.out) | exact HB.out)⟩
                ·rw [if_neg c79] at H
                 exact absurd H (by simp)
               ·rw [if_neg c77] at H
                exact absurd H (by simp)
              ·rw [if_neg c76] at H
               have c76b0 : (t38 == t43 && (t39 == t44 && (t40 == t45 && (t41 == t46)))) = false := by simpa using c76
               (try (have c76b1 : decide (t38 = t43 && (t39 == t44 && (t40 == t45 && (t41 == t46)))) = false := by simpa using c76))
               (try (have c76b2 : (t38 == t43 && (t39 == t44 && (t40 == t45 && (t41 == t46)))) = false := by simpa using c76))
               (try (have c76b3 : ¬ (t38 = t43 && (t39 == t44 && (t40 == t45 && (t41 == t46)))) := by simpa using c76))
               clear c76
               obtain rfl := Option.some.inj H
               obtain ⟨Ao88, co88, eo88⟩ := Kd.R_slice HO_9.out
               subst eo88
               try go_wp2
               have n0_ := Aside0.mk (Kd.R_drew HO_9.out)
               have n1_ := Aside0.mk (blk_drew BK11.out)
               have n2_ := Aside0.mk (below_drew1 HB.out)
               clear HO_9
               clear BK11
               clear HB
               have HO_9 := n0_
               have BK11 := n1_
               have HB := n2_
               clear n0_ n1_ n2_
               have p37 : 0 ≤ (a1 : Int) := of_decide_eq_true (by first | (with_reducible assumption) | assumption)
               have q37 : a1 < (l0_0.length : Int) := of_decide_eq_true (by first | (with_reducible assumption) | assumption)
               obtain ⟨ad37, e37, hx37_0, hx37_1, hx37_2, hx37_3⟩ := at_T48 HR0_0.out a1 p37 q37
               have hw37_3 := hx37_3
               have hw37_2 := hx37_2
               have hw37_1 := hx37_1
               have hw37_0 := hx37_0
               cases e37
               replace hx37_0 := (HB.out.cell (World.block_lt_of_cell? w _ hx37_0)).trans hx37_0
               replace hx37_1 := (HB.out.cell (World.block_lt_of_cell? w _ hx37_1)).trans hx37_1
               replace hx37_2 := (HB.out.cell (World.block_lt_of_cell? w _ hx37_2)).trans hx37_2
               replace hx37_3 := (HB.out.cell (World.block_lt_of_cell? w _ hx37_3)).trans hx37_3
               replace p37 := eq_true p37
               replace q37 := eq_true q37
               have p42 : 0 ≤ (a2 : Int) := of_decide_eq_true (by first | (with_reducible assumption) | assumption)
               have q42 : a2 < (l0_0.length : Int) := of_decide_eq_true (by first | (with_reducible assumption) | assumption)
               obtain ⟨ad42, e42, hx42_0, hx42_1, hx42_2, hx42_3⟩ := at_T48 HR0_0.out a2 p42 q42
               have hw42_3 := hx42_3
               have hw42_2 := hx42_2
               have hw42_1 := hx42_1
               have hw42_0 := hx42_0
               obtain rfl : ad37 = ad42 := (by injection e42)
               replace hx42_0 := (HB.out.cell (World.block_lt_of_cell? w _ hx42_0)).trans hx42_0
               replace hx42_1 := (HB.out.cell (World.block_lt_of_cell? w _ hx42_1)).trans hx42_1
               replace hx42_2 := (HB.out.cell (World.block_lt_of_cell? w _ hx42_2)).trans hx42_2
               replace hx42_3 := (HB.out.cell (World.block_lt_of_cell? w _ hx42_3)).trans hx42_3
               replace p42 := eq_true p42
               replace q42 := eq_true q42
               refine start_ (n := 16) (S := fun w' => w'.cell? ⟨gb11, 0, none⟩ = some (.slice (some ad37) l0_0.length c0_0) ∧ w'.cell? ⟨gb11, 1, none⟩ = some (.slice (some ad15) l0_1.length c0_1) ∧ w'.cell? ⟨gb11, 2, none⟩ = some (.slice A0_2 l0_2.length c0_2) ∧ w'.cell? (ad37.add ((a1).toNat * 4)) = some (.bool ((rd_T48 l0_0 a1).f0)) ∧ w'.cell? ⟨(ad37.add ((a1).toNat * 4)).block, (ad37.add ((a1).toNat * 4)).off + 1, none⟩ = some (.int .i64 ((rd_T48 l0_0 a1).f1)) ∧ w'.cell? ⟨(ad37.add ((a1).toNat * 4)).block, (ad37.add ((a1).toNat * 4)).off + 2, none⟩ = some (.int .i64 ((rd_T48 l0_0 a1).f2)) ∧ w'.cell? ⟨(ad37.add ((a1).toNat * 4)).block, (ad37.add ((a1).toNat * 4)).off + 3, none⟩ = some (.int .i64 ((rd_T48 l0_0 a1).f3)) ∧ w'.cell? (ad37.add ((a2).toNat * 4)) = some (.bool ((rd_T48 l0_0 a2).f0)) ∧ w'.cell? ⟨(ad37.add ((a2).toNat * 4)).block, (ad37.add ((a2).toNat * 4)).off + 1, none⟩ = some (.int .i64 ((rd_T48 l0_0 a2).f1)) ∧ w'.cell? ⟨(ad37.add ((a2).toNat * 4)).block, (ad37.add ((a2).toNat * 4)).off + 2, none⟩ = some (.int .i64 ((rd_T48 l0_0 a2).f2)) ∧ w'.cell? ⟨(ad37.add ((a2).toNat * 4)).block, (ad37.add ((a2).toNat * 4)).off + 3, none⟩ = some (.int .i64 ((rd_T48 l0_0 a2).f3))) (ds := []) #[false, false, false, false, false, false, false, false, false, false, false, false, false, false, false, false] (by kernel_rfl) rfl rfl ⟨(blk_cell BK11.out 0).trans rfl, (blk_cell BK11.out 1).trans rfl, (blk_cell BK11.out 2).trans rfl, ((HB.out.cell (World.block_lt_of_cell? w _ hw37_0)).trans hw37_0), ((HB.out.cell (World.block_lt_of_cell? w _ hw37_1)).trans hw37_1), ((HB.out.cell (World.block_lt_of_cell? w _ hw37_2)).trans hw37_2), ((HB.out.cell (World.block_lt_of_cell? w _ hw37_3)).trans hw37_3), ((HB.out.cell (World.block_lt_of_cell? w _ hw42_0)).trans hw42_0), ((HB.out.cell (World.block_lt_of_cell? w _ hw42_1)).trans hw42_1), ((HB.out.cell (World.block_lt_of_cell? w _ hw42_2)).trans hw42_2), ((HB.out.cell (World.block_lt_of_cell? w _ hw42_3)).trans hw42_3)⟩ (fun hHeld => ?_); refine with_tabW roadbooklaw16_MemoOf.tab14 roadbooklaw16_MemoOf.bits14 (fun HT_ HW_ => ?_)
               generalize wr.drew = w89 at HO_9 BK11 HB hx37_0 hx37_1 hx37_2 hx37_3 hx42_0 hx42_1 hx42_2 hx42_3 hHeld ⊢
               refine pure_ (i := 1) (N := some 119) (v := ?_) (a' := ?_) #[false, true, false, false, false, false, false, false, false, false, false, false, false, false, false, false] rfl rfl (any_of HT_.out (by kernel_rfl)) (fun _ _ _ h => h) (Or.inl ⟨by rfl, ?_⟩) ?_ ?_
               rotate_left
               ·intro w'
                go_simp
                with_reducible rfl
               rotate_left
               ·simp only [Act.put, List.setIfInBounds_toArray, List.set_cons_zero, List.set_cons_succ, i64_w, i32_w]
                rfl
               refine pure_ (i := 3) (N := some 121) (v := ?_) (a' := ?_) #[false, true, false, true, false, false, false, false, false, false, false, false, false, false, false, false] rfl rfl (any_of HT_.out (by kernel_rfl)) (fun _ _ _ h => h) (Or.inl ⟨by rfl, ?_⟩) ?_ ?_
               rotate_left
               ·intro w'
                go_simp
                with_reducible rfl
               rotate_left
               ·simp only [Act.put, List.setIfInBounds_toArray, List.set_cons_zero, List.set_cons_succ, i64_w, i32_w]
                rfl
               refine pure_ (i := 8) (N := some 126) (v := ?_) (a' := ?_) #[false, true, false, true, false, false, false, false, true, false, false, false, false, false, false, false] rfl rfl (any_of HT_.out (by kernel_rfl)) (fun _ _ _ h => h) (Or.inl ⟨by rfl, ?_⟩) ?_ ?_
               rotate_left
               ·intro w'
                go_simp
                with_reducible rfl
               rotate_left
               ·simp only [Act.put, List.setIfInBounds_toArray, List.set_cons_zero, List.set_cons_succ, i64_w, i32_w]
                rfl
               refine pure_ (i := 10) (N := some 128) (v := ?_) (a' := ?_) #[false, true, false, true, false, false, false, false, true, false, true, false, false, false, false, false] rfl rfl (any_of HT_.out (by kernel_rfl)) (fun _ _ _ h => h) (Or.inl ⟨by rfl, ?_⟩) ?_ ?_
               rotate_left
               ·intro w'
                go_simp
                with_reducible rfl
               rotate_left
               ·simp only [Act.put, List.setIfInBounds_toArray, List.set_cons_zero, List.set_cons_succ, i64_w, i32_w]
                rfl
               refine take_ (i := 0) (N := some 118) (v := ?_) (a' := ?_) #[true, true, false, true, false, false, false, false, true, false, true, false, false, false, false, false] rfl rfl (take_ofW HT_.out HW_.out (by kernel_rfl)) (fun _ _ _ h => h) (Or.inl ⟨by rfl, ?_⟩) hHeld ?_ ?_
               rotate_left
               ·rintro w' ⟨s0, s1, s2, s3, s4, s5, s6, s7, s8, s9, s10⟩
                go_simp
                with_reducible rfl
               rotate_left
               ·simp only [Act.put, List.setIfInBounds_toArray, List.set_cons_zero, List.set_cons_succ, i64_w, i32_w]
                rfl
               refine take_ (i := 2) (N := some 120) (v := ?_) (a' := ?_) #[true, true, true, true, false, false, false, false, true, false, true, false, false, false, false, false] rfl rfl (take_ofW HT_.out HW_.out (by kernel_rfl)) (fun _ _ _ h => h) (Or.inl ⟨by rfl, ?_⟩) hHeld ?_ ?_
               rotate_left
               ·rintro w' ⟨s0, s1, s2, s3, s4, s5, s6, s7, s8, s9, s10⟩
                go_simp
                with_reducible rfl
               rotate_left
               ·simp only [Act.put, List.setIfInBounds_toArray, List.set_cons_zero, List.set_cons_succ, i64_w, i32_w]
                rfl
               refine pure_ (i := 4) (N := some 122) (v := ?_) (a' := ?_) #[true, true, true, true, true, false, false, false, true, false, true, false, false, false, false, false] rfl rfl (any_of HT_.out (by kernel_rfl)) (fun _ _ _ h => h) (Or.inl ⟨by rfl, ?_⟩) ?_ ?_
               rotate_left
               ·intro w'
                go_simp
                with_reducible rfl
               rotate_left
               ·simp only [Act.put, List.setIfInBounds_toArray, List.set_cons_zero, List.set_cons_succ, i64_w, i32_w]
                rfl
               refine take_ (i := 5) (N := some 123) (v := ?_) (a' := ?_) #[true, true, true, true, true, true, false, false, true, false, true, false, false, false, false, false] rfl rfl (take_ofW HT_.out HW_.out (by kernel_rfl)) (fun _ _ _ h => h) (Or.inl ⟨by rfl, ?_⟩) hHeld ?_ ?_
               rotate_left
               ·rintro w' ⟨s0, s1, s2, s3, s4, s5, s6, s7, s8, s9, s10⟩
                go_simp
                with_reducible rfl
               rotate_left
               ·simp only [Act.put, List.setIfInBounds_toArray, List.set_cons_zero, List.set_cons_succ, i64_w, i32_w]
                rfl
               refine take_ (i := 7) (N := some 125) (v := ?_) (a' := ?_) #[true, true, true, true, true, true, false, true, true, false, true, false, false, false, false, false] rfl rfl (take_ofW HT_.out HW_.out (by kernel_rfl)) (fun _ _ _ h => h) (Or.inl ⟨by rfl, ?_⟩) hHeld ?_ ?_
               rotate_left
               ·rintro w' ⟨s0, s1, s2, s3, s4, s5, s6, s7, s8, s9, s10⟩
                go_simp
                with_reducible rfl
               rotate_left
               ·simp only [Act.put, List.setIfInBounds_toArray, List.set_cons_zero, List.set_cons_succ, i64_w, i32_w]
                rfl
               refine take_ (i := 9) (N := some 127) (v := ?_) (a' := ?_) #[true, true, true, true, true, true, false, true, true, true, true, false, false, false, false, false] rfl rfl (take_ofW HT_.out HW_.out (by kernel_rfl)) (fun _ _ _ h => h) (Or.inl ⟨by rfl, ?_⟩) hHeld ?_ ?_
               rotate_left
               ·rintro w' ⟨s0, s1, s2, s3, s4, s5, s6, s7, s8, s9, s10⟩
                go_simp
                with_reducible rfl
               rotate_left
               ·simp only [Act.put, List.setIfInBounds_toArray, List.set_cons_zero, List.set_cons_succ, i64_w, i32_w]
                rfl
               refine pure_ (i := 11) (N := some 129) (v := ?_) (a' := ?_) #[true, true, true, true, true, true, false, true, true, true, true, true, false, false, false, false] rfl rfl (any_of HT_.out (by kernel_rfl)) (fun _ _ _ h => h) (Or.inl ⟨by rfl, ?_⟩) ?_ ?_
               rotate_left
               ·intro w'
                go_simp
                with_reducible rfl
               rotate_left
               ·simp only [Act.put, List.setIfInBounds_toArray, List.set_cons_zero, List.set_cons_succ, i64_w, i32_w]
                rfl
               refine take_ (i := 12) (N := some 130) (v := ?_) (a' := ?_) #[true, true, true, true, true, true, false, true, true, true, true, true, true, false, false, false] rfl rfl (take_ofW HT_.out HW_.out (by kernel_rfl)) (fun _ _ _ h => h) (Or.inl ⟨by rfl, ?_⟩) hHeld ?_ ?_
               rotate_left
               ·rintro w' ⟨s0, s1, s2, s3, s4, s5, s6, s7, s8, s9, s10⟩
                go_simp
                with_reducible rfl
               rotate_left
               ·simp only [Act.put, List.setIfInBounds_toArray, List.set_cons_zero, List.set_cons_succ, i64_w, i32_w]
                rfl
               refine one_ (i := 6) (N := some 124) #[true, true, true, true, true, true, true, true, true, true, true, true, true, false, false, false] rfl rfl (one_of HT_.out (by kernel_rfl)) (by decide) (fun K hK => ?_)
               refine goes_ Try.func44 (by kernel_rfl) rfl #[.agg #[.slice (some ad37) l0_0.length c0_0, .slice (some ad15) l0_1.length c0_1, .slice A0_2 l0_2.length c0_2], .agg #[.bool ((rd_T48 l0_0 a1).f0), .int .i64 ((rd_T48 l0_0 a1).f1), .int .i64 ((rd_T48 l0_0 a1).f2), .int .i64 ((rd_T48 l0_0 a1).f3)]] (by rfl) rfl rfl (by (try simp only [List.map_toArray, List.map_cons, List.map_nil]); first | done | rfl | (simp only [List.length_drop, List.length_take]; rfl)) ?_
               with_reducible refine (memo_Canon.calls k2 _ _ l0_0 _ _ l0_1 _ _ l0_2 ((rd_T48 l0_0 a1).f0) ((rd_T48 l0_0 a1).f1) ((rd_T48 l0_0 a1).f2) ((rd_T48 l0_0 a1).f3) t38 t39 t40 t41 _ ?side1 ?side2 ?side3 ?side4 ?side5 ?side6 A71.out).mono ?_
               (case side1 => repeat (first | exact (Kd.C_below HR0_0.out HB.out) | (with_reducible refine Kd.C_alloc ?_ _) | (with_reducible refine Kd.C_drewN ?_ _) | (with_reducible refine Kd.C_drew ?_)))
               (case side2 => exact HC0_0.out)
               (case side3 => repeat (first | exact (Kd.C_below HR0_1.out HB.out) | (with_reducible refine Kd.C_alloc ?_ _) | (with_reducible refine Kd.C_drewN ?_ _) | (with_reducible refine Kd.C_drew ?_)))
               (case side4 => exact HC0_1.out)
               (case side5 => repeat (first | exact (Kd.C_below HR0_2.out HB.out) | (with_reducible refine Kd.C_alloc ?_ _) | (with_reducible refine Kd.C_drewN ?_ _) | (with_reducible refine Kd.C_drew ?_)))
               (case side6 => exact HC0_2.out)
               rintro e w90 ⟨rfl, hb⟩
               refine ⟨_, rfl, ?_⟩
               have n0_ := Aside0.mk (Kd.R_below (by (with_reducible repeat (first | apply Kd.R_alloc | apply Kd.R_drewN | apply Kd.R_drew)); exact HO_9.out) hb)
               have n1_ := Aside0.mk (blk_below (g := gb11) (o := .cells #[.slice (some ad37) l0_0.length c0_0, .slice (some ad15) l0_1.length c0_1, .slice A0_2 l0_2.length c0_2] 38 (0, 0)) (by (with_reducible repeat (first | refine blk_drewN ?_ _ | refine blk_drew ?_ | refine blk_alloc ?_ _)); exact BK11.out) hb)
               have n2_ := Aside0.mk (below_step (by repeat (first | (with_reducible first | exact HB.out | apply below_alloc | apply pw_below_drewN | apply below_drew1 | refine below_set ?_ GE11.out) | exact HB.out)) hb)
               clear HO_9
               clear BK11
               clear HB
               have HO_9 := n0_
               have BK11 := n1_
               have HB := n2_
               clear n0_ n1_ n2_
               (try clear hb)
               (try clear hb2)
               (try clear hk)
               (try clear hi)
               refine hK.out _ _ ⟨(blk_cell BK11.out 0).trans rfl, (blk_cell BK11.out 1).trans rfl, (blk_cell BK11.out 2).trans rfl, ((HB.out.cell (World.block_lt_of_cell? w _ hw37_0)).trans hw37_0), ((HB.out.cell (World.block_lt_of_cell? w _ hw37_1)).trans hw37_1), ((HB.out.cell (World.block_lt_of_cell? w _ hw37_2)).trans hw37_2), ((HB.out.cell (World.block_lt_of_cell? w _ hw37_3)).trans hw37_3), ((HB.out.cell (World.block_lt_of_cell? w _ hw42_0)).trans hw42_0), ((HB.out.cell (World.block_lt_of_cell? w _ hw42_1)).trans hw42_1), ((HB.out.cell (World.block_lt_of_cell? w _ hw42_2)).trans hw42_2), ((HB.out.cell (World.block_lt_of_cell? w _ hw42_3)).trans hw42_3)⟩ (fun hHeld => ?_)
               clear hK K
               refine norm_ (a' := ?_) ?_ ?_
               rotate_left
               ·show Act.put _ (some 124) _ = _
                simp only [Act.put, List.setIfInBounds_toArray, List.set_cons_zero, List.set_cons_succ, i64_w, i32_w]
                rfl
               refine one_ (i := 13) (N := some 131) #[true, true, true, true, true, true, true, true, true, true, true, true, true, true, false, false] rfl rfl (one_of HT_.out (by kernel_rfl)) (by decide) (fun K hK => ?_)
               refine goes_ Try.func44 (by kernel_rfl) rfl #[.agg #[.slice (some ad37) l0_0.length c0_0, .slice (some ad15) l0_1.length c0_1, .slice A0_2 l0_2.length c0_2], .agg #[.bool ((rd_T48 l0_0 a2).f0), .int .i64 ((rd_T48 l0_0 a2).f1), .int .i64 ((rd_T48 l0_0 a2).f2), .int .i64 ((rd_T48 l0_0 a2).f3)]] (by rfl) rfl rfl (by (try simp only [List.map_toArray, List.map_cons, List.map_nil]); first | done | rfl | (simp only [List.length_drop, List.length_take]; rfl)) ?_
               with_reducible refine (memo_Canon.calls k2 _ _ l0_0 _ _ l0_1 _ _ l0_2 ((rd_T48 l0_0 a2).f0) ((rd_T48 l0_0 a2).f1) ((rd_T48 l0_0 a2).f2) ((rd_T48 l0_0 a2).f3) t43 t44 t45 t46 _ ?side1 ?side2 ?side3 ?side4 ?side5 ?side6 A74.out).mono ?_
               (case side1 => repeat (first | exact (Kd.C_below HR0_0.out HB.out) | (with_reducible refine Kd.C_alloc ?_ _) | (with_reducible refine Kd.C_drewN ?_ _) | (with_reducible refine Kd.C_drew ?_)))
               (case side2 => exact HC0_0.out)
               (case side3 => repeat (first | exact (Kd.C_below HR0_1.out HB.out) | (with_reducible refine Kd.C_alloc ?_ _) | (with_reducible refine Kd.C_drewN ?_ _) | (with_reducible refine Kd.C_drew ?_)))
               (case side4 => exact HC0_1.out)
               (case side5 => repeat (first | exact (Kd.C_below HR0_2.out HB.out) | (with_reducible refine Kd.C_alloc ?_ _) | (with_reducible refine Kd.C_drewN ?_ _) | (with_reducible refine Kd.C_drew ?_)))
               (case side6 => exact HC0_2.out)
               rintro e w91 ⟨rfl, hb⟩
               refine ⟨_, rfl, ?_⟩
               have n0_ := Aside0.mk (Kd.R_below (by (with_reducible repeat (first | apply Kd.R_alloc | apply Kd.R_drewN | apply Kd.R_drew)); exact HO_9.out) hb)
               have n1_ := Aside0.mk (blk_below (g := gb11) (o := .cells #[.slice (some ad37) l0_0.length c0_0, .slice (some ad15) l0_1.length c0_1, .slice A0_2 l0_2.length c0_2] 38 (0, 0)) (by (with_reducible repeat (first | refine blk_drewN ?_ _ | refine blk_drew ?_ | refine blk_alloc ?_ _)); exact BK11.out) hb)
               have n2_ := Aside0.mk (below_step (by repeat (first | (with_reducible first | exact HB.out | apply below_alloc | apply pw_below_drewN | apply below_drew1 | refine below_set ?_ GE11.out) | exact HB.out)) hb)
               clear HO_9
               clear BK11
               clear HB
               have HO_9 := n0_
               have BK11 := n1_
               have HB := n2_
               clear n0_ n1_ n2_
               (try clear hb)
               (try clear hb2)
               (try clear hk)
               (try clear hi)
               refine hK.out _ _ ⟨(blk_cell BK11.out 0).trans rfl, (blk_cell BK11.out 1).trans rfl, (blk_cell BK11.out 2).trans rfl, ((HB.out.cell (World.block_lt_of_cell? w _ hw37_0)).trans hw37_0), ((HB.out.cell (World.block_lt_of_cell? w _ hw37_1)).trans hw37_1), ((HB.out.cell (World.block_lt_of_cell? w _ hw37_2)).trans hw37_2), ((HB.out.cell (World.block_lt_of_cell? w _ hw37_3)).trans hw37_3), ((HB.out.cell (World.block_lt_of_cell? w _ hw42_0)).trans hw42_0), ((HB.out.cell (World.block_lt_of_cell? w _ hw42_1)).trans hw42_1), ((HB.out.cell (World.block_lt_of_cell? w _ hw42_2)).trans hw42_2), ((HB.out.cell (World.block_lt_of_cell? w _ hw42_3)).trans hw42_3)⟩ (fun hHeld => ?_)
               clear hK K
               refine norm_ (a' := ?_) ?_ ?_
               rotate_left
               ·show Act.put _ (some 131) _ = _
                simp only [Act.put, List.setIfInBounds_toArray, List.set_cons_zero, List.set_cons_succ, i64_w, i32_w]
                rfl
               refine pure_ (i := 14) (N := some 132) (v := ?_) (a' := ?_) #[true, true, true, true, true, true, true, true, true, true, true, true, true, true, true, false] rfl rfl (any_of HT_.out (by kernel_rfl)) (fun _ _ _ h => h) (Or.inl ⟨by rfl, ?_⟩) ?_ ?_
               rotate_left
               ·intro w'
                go_simp
                with_reducible rfl
               rotate_left
               ·simp only [Act.put, List.setIfInBounds_toArray, List.set_cons_zero, List.set_cons_succ, i64_w, i32_w]
                rfl
               refine pure_ (i := 15) (N := some 12) (v := ?_) (a' := ?_) #[true, true, true, true, true, true, true, true, true, true, true, true, true, true, true, true] rfl rfl (any_of HT_.out (by kernel_rfl)) (fun _ _ _ h => h) (Or.inl ⟨by rfl, ?_⟩) ?_ ?_
               rotate_left
               ·intro w'
                go_simp
                with_reducible rfl
               rotate_left
               ·simp only [Act.put, List.setIfInBounds_toArray, List.set_cons_zero, List.set_cons_succ, i64_w, i32_w]
                rfl
               refine done_ (done_of HT_.out (by kernel_rfl)) ?_
               try go_wp2
               have n0_ := Aside0.mk (Kd.R_drew HO_9.out)
               have n1_ := Aside0.mk (blk_drew BK11.out)
               have n2_ := Aside0.mk (below_drew1 HB.out)
               clear HO_9
               clear BK11
               clear HB
               have HO_9 := n0_
               have BK11 := n1_
               have HB := n2_
               clear n0_ n1_ n2_
               refine start_ (n := 24) (S := fun w' => True) (ds := []) #[false, false, false, false, false, false, false, false, false, false, false, false, false, false, false, false, false, false, false, false, false, false, false, false] (by kernel_rfl) rfl rfl trivial (fun hHeld => ?_); refine with_tabW roadbooklaw16_MemoOf.tab15 roadbooklaw16_MemoOf.bits15 (fun HT_ HW_ => ?_)
               generalize w91.drew = w92 at HO_9 BK11 HB hHeld ⊢
               refine pure_ (i := 0) (N := some 133) (v := ?_) (a' := ?_) #[true, false, false, false, false, false, false, false, false, false, false, false, false, false, false, false, false, false, false, false, false, false, false, false] rfl rfl (any_of HT_.out (by kernel_rfl)) (fun _ _ _ h => h) (Or.inl ⟨by rfl, ?_⟩) ?_ ?_
               rotate_left
               ·intro w'
                go_simp
                with_reducible rfl
               rotate_left
               ·simp only [Act.put, List.setIfInBounds_toArray, List.set_cons_zero, List.set_cons_succ, i64_w, i32_w]
                rfl
               refine pure_ (i := 1) (N := some 134) (v := ?_) (a' := ?_) #[true, true, false, false, false, false, false, false, false, false, false, false, false, false, false, false, false, false, false, false, false, false, false, false] rfl rfl (any_of HT_.out (by kernel_rfl)) (fun _ _ _ h => h) (Or.inl ⟨by rfl, ?_⟩) ?_ ?_
               rotate_left
               ·intro w'
                go_simp
                with_reducible rfl
               rotate_left
               ·simp only [Act.put, List.setIfInBounds_toArray, List.set_cons_zero, List.set_cons_succ, i64_w, i32_w]
                rfl
               refine pure_ (i := 2) (N := some 135) (v := ?_) (a' := ?_) #[true, true, true, false, false, false, false, false, false, false, false, false, false, false, false, false, false, false, false, false, false, false, false, false] rfl rfl (any_of HT_.out (by kernel_rfl)) (fun _ _ _ h => h) (Or.inl ⟨by rfl, ?_⟩) ?_ ?_
               rotate_left
               ·intro w'
                go_simp
                with_reducible rfl
               rotate_left
               ·simp only [Act.put, List.setIfInBounds_toArray, List.set_cons_zero, List.set_cons_succ, i64_w, i32_w]
                rfl
               refine pure_ (i := 3) (N := some 136) (v := ?_) (a' := ?_) #[true, true, true, true, false, false, false, false, false, false, false, false, false, false, false, false, false, false, false, false, false, false, false, false] rfl rfl (any_of HT_.out (by kernel_rfl)) (fun _ _ _ h => h) (Or.inl ⟨by rfl, ?_⟩) ?_ ?_
               rotate_left
               ·intro w'
                go_simp
                with_reducible rfl
               rotate_left
               ·simp only [Act.put, List.setIfInBounds_toArray, List.set_cons_zero, List.set_cons_succ, i64_w, i32_w]
                rfl
               refine pure_ (i := 4) (N := some 137) (v := ?_) (a' := ?_) #[true, true, true, true, true, false, false, false, false, false, false, false, false, false, false, false, false, false, false, false, false, false, false, false] rfl rfl (any_of HT_.out (by kernel_rfl)) (fun _ _ _ h => h) (Or.inl ⟨by rfl, ?_⟩) ?_ ?_
               rotate_left
               ·intro w'
                go_simp
                with_reducible rfl
               rotate_left
               ·simp only [Act.put, List.setIfInBounds_toArray, List.set_cons_zero, List.set_cons_succ, i64_w, i32_w]
                rfl
               refine pure_ (i := 5) (N := some 138) (v := ?_) (a' := ?_) #[true, true, true, true, true, true, false, false, false, false, false, false, false, false, false, false, false, false, false, false, false, false, false, false] rfl rfl (any_of HT_.out (by kernel_rfl)) (fun _ _ _ h => h) (Or.inl ⟨by rfl, ?_⟩) ?_ ?_
               rotate_left
               ·intro w'
                go_simp
                with_reducible rfl
               rotate_left
               ·simp only [Act.put, List.setIfInBounds_toArray, List.set_cons_zero, List.set_cons_succ, i64_w, i32_w]
                rfl
               refine pure_ (i := 6) (N := some 139) (v := undef) (a' := ?_) #[true, true, true, true, true, true, true, false, false, false, false, false, false, false, false, false, false, false, false, false, false, false, false, false] rfl rfl (any_of HT_.out (by kernel_rfl)) (fun _ _ _ h => h) (Or.inr ⟨by rfl, rfl⟩) ?_ ?_
               rotate_left
               ·simp only [Act.put, List.setIfInBounds_toArray, List.set_cons_zero, List.set_cons_succ, i64_w, i32_w]
                rfl
               refine pure_ (i := 7) (N := some 140) (v := undef) (a' := ?_) #[true, true, true, true, true, true, true, true, false, false, false, false, false, false, false, false, false, false, false, false, false, false, false, false] rfl rfl (any_of HT_.out (by kernel_rfl)) (fun _ _ _ h => h) (Or.inr ⟨by rfl, rfl⟩) ?_ ?_
               rotate_left
               ·simp only [Act.put, List.setIfInBounds_toArray, List.set_cons_zero, List.set_cons_succ, i64_w, i32_w]
                rfl
               refine pure_ (i := 8) (N := some 141) (v := undef) (a' := ?_) #[true, true, true, true, true, true, true, true, true, false, false, false, false, false, false, false, false, false, false, false, false, false, false, false] rfl rfl (any_of HT_.out (by kernel_rfl)) (fun _ _ _ h => h) (Or.inr ⟨by rfl, rfl⟩) ?_ ?_
               rotate_left
               ·simp only [Act.put, List.setIfInBounds_toArray, List.set_cons_zero, List.set_cons_succ, i64_w, i32_w]
                rfl
               refine pure_ (i := 9) (N := some 142) (v := undef) (a' := ?_) #[true, true, true, true, true, true, true, true, true, true, false, false, false, false, false, false, false, false, false, false, false, false, false, false] rfl rfl (any_of HT_.out (by kernel_rfl)) (fun _ _ _ h => h) (Or.inr ⟨by rfl, rfl⟩) ?_ ?_
               rotate_left
               ·simp only [Act.put, List.setIfInBounds_toArray, List.set_cons_zero, List.set_cons_succ, i64_w, i32_w]
                rfl
               refine pure_ (i := 10) (N := some 143) (v := undef) (a' := ?_) #[true, true, true, true, true, true, true, true, true, true, true, false, false, false, false, false, false, false, false, false, false, false, false, false] rfl rfl (any_of HT_.out (by kernel_rfl)) (fun _ _ _ h => h) (Or.inr ⟨by rfl, rfl⟩) ?_ ?_
               rotate_left
               ·simp only [Act.put, List.setIfInBounds_toArray, List.set_cons_zero, List.set_cons_succ, i64_w, i32_w]
                rfl
               refine pure_ (i := 11) (N := some 144) (v := undef) (a' := ?_) #[true, true, true, true, true, true, true, true, true, true, true, true, false, false, false, false, false, false, false, false, false, false, false, false] rfl rfl (any_of HT_.out (by kernel_rfl)) (fun _ _ _ h => h) (Or.inr ⟨by rfl, rfl⟩) ?_ ?_
               rotate_left
               ·simp only [Act.put, List.setIfInBounds_toArray, List.set_cons_zero, List.set_cons_succ, i64_w, i32_w]
                rfl
               refine pure_ (i := 12) (N := some 145) (v := undef) (a' := ?_) #[true, true, true, true, true, true, true, true, true, true, true, true, true, false, false, false, false, false, false, false, false, false, false, false] rfl rfl (any_of HT_.out (by kernel_rfl)) (fun _ _ _ h => h) (Or.inr ⟨by rfl, rfl⟩) ?_ ?_
               rotate_left
               ·simp only [Act.put, List.setIfInBounds_toArray, List.set_cons_zero, List.set_cons_succ, i64_w, i32_w]
                rfl
               refine pure_ (i := 13) (N := some 146) (v := undef) (a' := ?_) #[true, true, true, true, true, true, true, true, true, true, true, true, true, true, false, false, false, false, false, false, false, false, false, false] rfl rfl (any_of HT_.out (by kernel_rfl)) (fun _ _ _ h => h) (Or.inr ⟨by rfl, rfl⟩) ?_ ?_
               rotate_left
               ·simp only [Act.put, List.setIfInBounds_toArray, List.set_cons_zero, List.set_cons_succ, i64_w, i32_w]
                rfl
               refine pure_ (i := 14) (N := some 147) (v := undef) (a' := ?_) #[true, true, true, true, true, true, true, true, true, true, true, true, true, true, true, false, false, false, false, false, false, false, false, false] rfl rfl (any_of HT_.out (by kernel_rfl)) (fun _ _ _ h => h) (Or.inr ⟨by rfl, rfl⟩) ?_ ?_
               rotate_left
               ·simp only [Act.put, List.setIfInBounds_toArray, List.set_cons_zero, List.set_cons_succ, i64_w, i32_w]
                rfl
               refine pure_ (i := 15) (N := some 148) (v := undef) (a' := ?_) #[true, true, true, true, true, true, true, true, true, true, true, true, true, true, true, true, false, false, false, false, false, false, false, false] rfl rfl (any_of HT_.out (by kernel_rfl)) (fun _ _ _ h => h) (Or.inr ⟨by rfl, rfl⟩) ?_ ?_
               rotate_left
               ·simp only [Act.put, List.setIfInBounds_toArray, List.set_cons_zero, List.set_cons_succ, i64_w, i32_w]
                rfl
               refine pure_ (i := 16) (N := some 149) (v := undef) (a' := ?_) #[true, true, true, true, true, true, true, true, true, true, true, true, true, true, true, true, true, false, false, false, false, false, false, false] rfl rfl (any_of HT_.out (by kernel_rfl)) (fun _ _ _ h => h) (Or.inr ⟨by rfl, rfl⟩) ?_ ?_
               rotate_left
               ·simp only [Act.put, List.setIfInBounds_toArray, List.set_cons_zero, List.set_cons_succ, i64_w, i32_w]
                rfl
               refine pure_ (i := 17) (N := some 150) (v := undef) (a' := ?_) #[true, true, true, true, true, true, true, true, true, true, true, true, true, true, true, true, true, true, false, false, false, false, false, false] rfl rfl (any_of HT_.out (by kernel_rfl)) (fun _ _ _ h => h) (Or.inr ⟨by rfl, rfl⟩) ?_ ?_
               rotate_left
               ·simp only [Act.put, List.setIfInBounds_toArray, List.set_cons_zero, List.set_cons_succ, i64_w, i32_w]
                rfl
               refine pure_ (i := 18) (N := some 151) (v := undef) (a' := ?_) #[true, true, true, true, true, true, true, true, true, true, true, true, true, true, true, true, true, true, true, false, false, false, false, false] rfl rfl (any_of HT_.out (by kernel_rfl)) (fun _ _ _ h => h) (Or.inr ⟨by rfl, rfl⟩) ?_ ?_
               rotate_left
               ·simp only [Act.put, List.setIfInBounds_toArray, List.set_cons_zero, List.set_cons_succ, i64_w, i32_w]
                rfl
               refine pure_ (i := 19) (N := some 152) (v := undef) (a' := ?_) #[true, true, true, true, true, true, true, true, true, true, true, true, true, true, true, true, true, true, true, true, false, false, false, false] rfl rfl (any_of HT_.out (by kernel_rfl)) (fun _ _ _ h => h) (Or.inr ⟨by rfl, rfl⟩) ?_ ?_
               rotate_left
               ·simp only [Act.put, List.setIfInBounds_toArray, List.set_cons_zero, List.set_cons_succ, i64_w, i32_w]
                rfl
               refine pure_ (i := 20) (N := some 153) (v := undef) (a' := ?_) #[true, true, true, true, true, true, true, true, true, true, true, true, true, true, true, true, true, true, true, true, true, false, false, false] rfl rfl (any_of HT_.out (by kernel_rfl)) (fun _ _ _ h => h) (Or.inr ⟨by rfl, rfl⟩) ?_ ?_
               rotate_left
               ·simp only [Act.put, List.setIfInBounds_toArray, List.set_cons_zero, List.set_cons_succ, i64_w, i32_w]
                rfl
               refine pure_ (i := 21) (N := some 154) (v := ?_) (a' := ?_) #[true, true, true, true, true, true, true, true, true, true, true, true, true, true, true, true, true, true, true, true, true, true, false, false] rfl rfl (any_of HT_.out (by kernel_rfl)) (fun _ _ _ h => h) (Or.inl ⟨by rfl, ?_⟩) ?_ ?_
               rotate_left
               ·intro w'
                go_simp
                with_reducible rfl
               rotate_left
               ·simp only [Act.put, List.setIfInBounds_toArray, List.set_cons_zero, List.set_cons_succ, i64_w, i32_w]
                rfl
               refine pure_ (i := 22) (N := some 155) (v := ?_) (a' := ?_) #[true, true, true, true, true, true, true, true, true, true, true, true, true, true, true, true, true, true, true, true, true, true, true, false] rfl rfl (any_of HT_.out (by kernel_rfl)) (fun _ _ _ h => h) (Or.inl ⟨by rfl, ?_⟩) ?_ ?_
               rotate_left
               ·intro w'
                go_simp
                with_reducible rfl
               rotate_left
               ·simp only [Act.put, List.setIfInBounds_toArray, List.set_cons_zero, List.set_cons_succ, i64_w, i32_w]
                rfl
               refine pure_ (i := 23) (N := some 6) (v := ?_) (a' := ?_) #[true, true, true, true, true, true, true, true, true, true, true, true, true, true, true, true, true, true, true, true, true, true, true, true] rfl rfl (any_of HT_.out (by kernel_rfl)) (fun _ _ _ h => h) (Or.inl ⟨by rfl, ?_⟩) ?_ ?_
               rotate_left
               ·intro w'
                go_simp
                with_reducible rfl
               rotate_left
               ·simp only [Act.put, List.setIfInBounds_toArray, List.set_cons_zero, List.set_cons_succ, i64_w, i32_w]
                rfl
               refine done_ (done_of HT_.out (by kernel_rfl)) ?_
               try go_wp2
               go_ret
               exact ⟨by first | rfl | (simp [errW_none, errW_some] <;> rfl) | (simp [*, errW_none, errW_some] <;> rfl), by repeat (first | (with_reducible first | exact HB.out | apply below_alloc | apply pw_below_drewN | apply below_drew1 | refine below_set ?_ GE11.out) | exact HB.out)⟩
             ·rw [if_neg c75] at H
              have c75b0 : (x10_2 == 1) = false := beq_eq_false_iff_ne.mpr c75
              have c75b1 : (x10_2 != 1) = true := bne_iff_ne.mpr c75
              exact absurd (HRT.out.symm.trans (Option.some.inj H).symm) (by decide)
            ·rw [if_neg c73] at H
             exact absurd H (by simp)
           ·rw [if_neg c72] at H
            exact absurd H (by simp)
          ·rw [if_neg c70] at H
           exact absurd H (by simp)
         ·rw [if_neg c69] at H
          exact absurd H (by simp)
     ·rw [if_neg c32] at H
      exact absurd H (by simp)
    ·rw [if_neg c31] at H
     exact absurd H (by simp)

end Go.Proofs.Ytkidnomkfdnciaa.All
