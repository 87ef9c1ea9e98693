/- Functions of the program as plain Lean functions, and proofs that the calls do what these say; written for this claim by a program of the session (wip/tools/mkprint.py), checked by Lean. -/
import Derived.Test.YtkidnomkfdnciaaAllx0
import Derived.Test.YtkidnomkfdnciaaMv
import Derived.Test.YtkidnomkfdnciaaAllx9
import Derived.Test.YtkidnomkfdnciaaAllx10
import Derived.Test.YtkidnomkfdnciaaAllx13
import Derived.Test.YtkidnomkfdnciaaAllx16
import Derived.Test.YtkidnomkfdnciaaAllx17
import Derived.Test.YtkidnomkfdnciaaAllx18
import Derived.Test.YtkidnomkfdnciaaAllx19
import Derived.Test.YtkidnomkfdnciaaAllx32
import Derived.Test.YtkidnomkfdnciaaAllx35
namespace Go.Proofs.Ytkidnomkfdnciaa.All
open Go.RowKit Go.Proofs.YtkidnomkfdnciaaW.PrintWords Go.Proofs.YtkidnomkfdnciaaW.PrintLast Go.Proofs.YtkidnomkfdnciaaW.PrintMore
attribute [local go_sem] max2_int min2_int max_two min_two max_three min_three max_four min_four   -- for this text's walks alone
set_option linter.unusedVariables false
set_option linter.unusedSimpArgs false

/-! ### roadbooklaw16_MemoOne: function 15 -/
mutual
def roadbooklaw16_MemoOne.j0 : Nat → Int → Int → Bool → Bool → List (S48) → List Int → List Int → Bool → Int → Int → Int → Option (Bool)
  | 0, _, _, _, _, _, _, _, _, _, _, _ => none
  | k + 1, x2, x3, x9, x33, x12000, x12001, x12002, x13000, x13001, x13002, x13003 => if x33 = true then (some x9) else ((memo_Merge.f k x12000 x12001 x12002 x2 x3).bind fun bt16 => (if bt16.2.2.2.2 = 0 then ((memo_Find.f k x12000 x12001 x12002 x2).bind fun t28 => ((memo_Find.f k x12000 x12001 x12002 x3).bind fun t29 => (if t28 = t29 then ((memo_Same.f k bt16.1 bt16.2.1 bt16.2.2.1 x12000 x12001 x12002).bind fun t30 => (roadbooklaw16_MemoOne.j1 k (!t30) x12000 x12001 x12002 x13000 x13001 x13002 x13003)) else (roadbooklaw16_MemoOne.j1 k false x12000 x12001 x12002 x13000 x13001 x13002 x13003)))) else (roadbooklaw16_MemoOne.j1 k false x12000 x12001 x12002 x13000 x13001 x13002 x13003)))
def roadbooklaw16_MemoOne.j1 : Nat → Bool → List (S48) → List Int → List Int → Bool → Int → Int → Int → Option (Bool)
  | 0, _, _, _, _, _, _, _, _ => none
  | k + 1, x59, x12000, x12001, x12002, x13000, x13001, x13002, x13003 => if x59 = true then (some false) else ((memo_Look.f x12000 x12001 x12002 x13000 x13001 x13002 x13003).bind fun bt31 => ((memo_Put.f k x12000 x12001 x12002 x13000 x13001 x13002 x13003 (-1)).bind fun bt33 => (if bt33.2.2.2.2 = 0 then (roadbooklaw16_MemoOne.j2 k bt33.2.2.2.1 bt33.2.2.2.2 bt31.2 x12000 x12001 x12002 bt33.1 bt33.2.1 bt33.2.2.1) else (roadbooklaw16_MemoOne.j2 k bt33.2.2.2.1 bt33.2.2.2.2 true x12000 x12001 x12002 bt33.1 bt33.2.1 bt33.2.2.1))))
def roadbooklaw16_MemoOne.j2 : Nat → Int → Int → Bool → List (S48) → List Int → List Int → List (S48) → List Int → List Int → Option (Bool)
  | 0, _, _, _, _, _, _, _, _, _ => none
  | k + 1, x17, x18, x77, x12000, x12001, x12002, x45000, x45001, x45002 => if x77 = true then (if x18 = 0 then ((memo_Same.f k x45000 x45001 x45002 x12000 x12001 x12002).bind fun t45 => (some t45)) else (some true)) else ((memo_Of.f k x45000 x45001 x45002 x17).bind fun t46 => (if x17 = (x12002.length : Int) then (if (t46.length : Int) = 1 then (if 0 < (t46.length : Int) then (if (rd t46 0) = (x12000.length : Int) then (some ((x45002.length : Int) == (wrap64 ((x12002.length : Int) + 1)))) else (some false)) else (none)) else (some false)) else (some false)))
end
def roadbooklaw16_MemoOne.f (k : Nat) (l0_0 : List (S48)) (l0_1 : List Int) (l0_2 : List Int) (a1_0 : Bool) (a1_1 : Int) (a1_2 : Int) (a1_3 : Int) (a2 : Int) (a3 : Int) : Option (Bool) := (roadbooklaw16_awake.f k).bind fun t13 => ((roadbooklaw16_few.f l0_0 l0_1 l0_2 60).bind fun t14 => (if t13 = true then (if t14 = true then ((memo_May.f l0_0 l0_1 l0_2).bind fun t15 => (roadbooklaw16_MemoOne.j0 k a2 a3 t13 (!t15) l0_0 l0_1 l0_2 a1_0 a1_1 a1_2 a1_3)) else (roadbooklaw16_MemoOne.j0 k a2 a3 t13 true l0_0 l0_1 l0_2 a1_0 a1_1 a1_2 a1_3)) else (roadbooklaw16_MemoOne.j0 k a2 a3 t13 true l0_0 l0_1 l0_2 a1_0 a1_1 a1_2 a1_3)))
theorem roadbooklaw16_MemoOne.mono_l : ∀ k, (∀ y0 y1 y2 y3 y4 y5 y6 y7 y8 y9 y10, LeO (roadbooklaw16_MemoOne.j0 k y0 y1 y2 y3 y4 y5 y6 y7 y8 y9 y10) (roadbooklaw16_MemoOne.j0 (k + 1) y0 y1 y2 y3 y4 y5 y6 y7 y8 y9 y10)) ∧ (∀ y0 y1 y2 y3 y4 y5 y6 y7, LeO (roadbooklaw16_MemoOne.j1 k y0 y1 y2 y3 y4 y5 y6 y7) (roadbooklaw16_MemoOne.j1 (k + 1) y0 y1 y2 y3 y4 y5 y6 y7)) ∧ (∀ y0 y1 y2 y3 y4 y5 y6 y7 y8, LeO (roadbooklaw16_MemoOne.j2 k y0 y1 y2 y3 y4 y5 y6 y7 y8) (roadbooklaw16_MemoOne.j2 (k + 1) y0 y1 y2 y3 y4 y5 y6 y7 y8))
  | 0 => ⟨fun _ _ _ _ _ _ _ _ _ _ _ r h => by simp [roadbooklaw16_MemoOne.j0] at h, fun _ _ _ _ _ _ _ _ r h => by simp [roadbooklaw16_MemoOne.j1] at h, fun _ _ _ _ _ _ _ _ _ r h => by simp [roadbooklaw16_MemoOne.j2] at h⟩
  | k + 1 => by
    obtain ⟨ih0, ih1, ih2⟩ := roadbooklaw16_MemoOne.mono_l k
    refine ⟨?_, ?_, ?_⟩
    · intro y0 y1 y2 y3 y4 y5 y6 y7 y8 y9 y10
      unfold roadbooklaw16_MemoOne.j0
      repeat' first
      | (with_reducible exact ih0 _ _ _ _ _ _ _ _ _ _ _)
      | (with_reducible exact ih1 _ _ _ _ _ _ _ _)
      | (with_reducible exact ih2 _ _ _ _ _ _ _ _ _)
      | (with_reducible exact memo_Find.mono _ _ _ _ _)
      | (with_reducible exact memo_Merge.mono _ _ _ _ _ _)
      | (with_reducible exact memo_Of.mono _ _ _ _ _)
      | (with_reducible exact memo_Put.mono _ _ _ _ _ _ _ _ _)
      | (with_reducible exact memo_Same.mono _ _ _ _ _ _ _)
      | (with_reducible exact roadbooklaw16_awake.mono _)
      | (with_reducible exact LeO.refl _)
      | (with_reducible exact LeO.none _)
      | (with_reducible refine LeO.ite ?_ ?_)
      | (with_reducible refine LeO.bind ?_ (fun _ => ?_))
      | exact ih0 _ _ _ _ _ _ _ _ _ _ _
      | exact ih1 _ _ _ _ _ _ _ _
      | exact ih2 _ _ _ _ _ _ _ _ _
      | exact memo_Find.mono _ _ _ _ _
      | exact memo_Merge.mono _ _ _ _ _ _
      | exact memo_Of.mono _ _ _ _ _
      | exact memo_Put.mono _ _ _ _ _ _ _ _ _
      | exact memo_Same.mono _ _ _ _ _ _ _
      | exact roadbooklaw16_awake.mono _
      | exact LeO.none _
      | refine LeO.ite ?_ ?_
      | refine LeO.bind ?_ (fun _ => ?_)
    · intro y0 y1 y2 y3 y4 y5 y6 y7
      unfold roadbooklaw16_MemoOne.j1
      repeat' first
      | (with_reducible exact ih0 _ _ _ _ _ _ _ _ _ _ _)
      | (with_reducible exact ih1 _ _ _ _ _ _ _ _)
      | (with_reducible exact ih2 _ _ _ _ _ _ _ _ _)
      | (with_reducible exact memo_Find.mono _ _ _ _ _)
      | (with_reducible exact memo_Merge.mono _ _ _ _ _ _)
      | (with_reducible exact memo_Of.mono _ _ _ _ _)
      | (with_reducible exact memo_Put.mono _ _ _ _ _ _ _ _ _)
      | (with_reducible exact memo_Same.mono _ _ _ _ _ _ _)
      | (with_reducible exact roadbooklaw16_awake.mono _)
      | (with_reducible exact LeO.refl _)
      | (with_reducible exact LeO.none _)
      | (with_reducible refine LeO.ite ?_ ?_)
      | (with_reducible refine LeO.bind ?_ (fun _ => ?_))
      | exact ih0 _ _ _ _ _ _ _ _ _ _ _
      | exact ih1 _ _ _ _ _ _ _ _
      | exact ih2 _ _ _ _ _ _ _ _ _
      | exact memo_Find.mono _ _ _ _ _
      | exact memo_Merge.mono _ _ _ _ _ _
      | exact memo_Of.mono _ _ _ _ _
      | exact memo_Put.mono _ _ _ _ _ _ _ _ _
      | exact memo_Same.mono _ _ _ _ _ _ _
      | exact roadbooklaw16_awake.mono _
      | exact LeO.none _
      | refine LeO.ite ?_ ?_
      | refine LeO.bind ?_ (fun _ => ?_)
    · intro y0 y1 y2 y3 y4 y5 y6 y7 y8
      unfold roadbooklaw16_MemoOne.j2
      repeat' first
      | (with_reducible exact ih0 _ _ _ _ _ _ _ _ _ _ _)
      | (with_reducible exact ih1 _ _ _ _ _ _ _ _)
      | (with_reducible exact ih2 _ _ _ _ _ _ _ _ _)
      | (with_reducible exact memo_Find.mono _ _ _ _ _)
      | (with_reducible exact memo_Merge.mono _ _ _ _ _ _)
      | (with_reducible exact memo_Of.mono _ _ _ _ _)
      | (with_reducible exact memo_Put.mono _ _ _ _ _ _ _ _ _)
      | (with_reducible exact memo_Same.mono _ _ _ _ _ _ _)
      | (with_reducible exact roadbooklaw16_awake.mono _)
      | (with_reducible exact LeO.refl _)
      | (with_reducible exact LeO.none _)
      | (with_reducible refine LeO.ite ?_ ?_)
      | (with_reducible refine LeO.bind ?_ (fun _ => ?_))
      | exact ih0 _ _ _ _ _ _ _ _ _ _ _
      | exact ih1 _ _ _ _ _ _ _ _
      | exact ih2 _ _ _ _ _ _ _ _ _
      | exact memo_Find.mono _ _ _ _ _
      | exact memo_Merge.mono _ _ _ _ _ _
      | exact memo_Of.mono _ _ _ _ _
      | exact memo_Put.mono _ _ _ _ _ _ _ _ _
      | exact memo_Same.mono _ _ _ _ _ _ _
      | exact roadbooklaw16_awake.mono _
      | exact LeO.none _
      | refine LeO.ite ?_ ?_
      | refine LeO.bind ?_ (fun _ => ?_)
theorem roadbooklaw16_MemoOne.mono : ∀ a0 a1 a2 a3 a4 a5 a6 a7 a8 k, LeO (roadbooklaw16_MemoOne.f k a0 a1 a2 a3 a4 a5 a6 a7 a8) (roadbooklaw16_MemoOne.f (k + 1) a0 a1 a2 a3 a4 a5 a6 a7 a8) := by
  intro a0 a1 a2 a3 a4 a5 a6 a7 a8 k
  obtain ⟨ih0, ih1, ih2⟩ := roadbooklaw16_MemoOne.mono_l k
  unfold roadbooklaw16_MemoOne.f
  repeat' first
      | (with_reducible exact ih0 _ _ _ _ _ _ _ _ _ _ _)
      | (with_reducible exact ih1 _ _ _ _ _ _ _ _)
      | (with_reducible exact ih2 _ _ _ _ _ _ _ _ _)
      | (with_reducible exact memo_Find.mono _ _ _ _ _)
      | (with_reducible exact memo_Merge.mono _ _ _ _ _ _)
      | (with_reducible exact memo_Of.mono _ _ _ _ _)
      | (with_reducible exact memo_Put.mono _ _ _ _ _ _ _ _ _)
      | (with_reducible exact memo_Same.mono _ _ _ _ _ _ _)
      | (with_reducible exact roadbooklaw16_awake.mono _)
      | (with_reducible exact LeO.refl _)
      | (with_reducible exact LeO.none _)
      | (with_reducible refine LeO.ite ?_ ?_)
      | (with_reducible refine LeO.bind ?_ (fun _ => ?_))
      | exact ih0 _ _ _ _ _ _ _ _ _ _ _
      | exact ih1 _ _ _ _ _ _ _ _
      | exact ih2 _ _ _ _ _ _ _ _ _
      | exact memo_Find.mono _ _ _ _ _
      | exact memo_Merge.mono _ _ _ _ _ _
      | exact memo_Of.mono _ _ _ _ _
      | exact memo_Put.mono _ _ _ _ _ _ _ _ _
      | exact memo_Same.mono _ _ _ _ _ _ _
      | exact roadbooklaw16_awake.mono _
      | exact LeO.none _
      | refine LeO.ite ?_ ?_
      | refine LeO.bind ?_ (fun _ => ?_)
def roadbooklaw16_MemoOne.T6 : Bool × List (List Nat × List Nat) := (true, [([], []), ([0], [0]), ([1], [1]), ([2], [2]), ([2], [2]), ([3, 4, 2, 2], [2, 3, 4]), ([2], [2]), ([2], [2]), ([6, 7, 5, 2], [2, 6, 7]), ([5, 8, 2], [2, 5, 8]), ([2, 9], [2, 9]), ([10, 8], [10]), ([11], [11]), ([11], [11]), ([12, 13, 11, 11], [11, 12, 13]), ([14, 11], [11, 14]), ([11, 15], [11, 15])])
def roadbooklaw16_MemoOne.B6 : List Nat := [0, 1, 3, 7, 7, 31, 7, 7, 255, 511, 1023, 2047, 4095, 4095, 16383, 32767, 65535]
theorem roadbooklaw16_MemoOne.tab6 : rtab .any (opsOf Try.f15 6) = roadbooklaw16_MemoOne.T6 := by kernel_rfl
theorem roadbooklaw16_MemoOne.bits6 : waitsOk roadbooklaw16_MemoOne.T6.2 roadbooklaw16_MemoOne.B6 = true := by kernel_rfl
def roadbooklaw16_MemoOne.T13 : Bool × List (List Nat × List Nat) := (true, [([], []), ([], []), ([1], [1]), ([2], [2]), ([0, 3], [0, 3]), ([4], [4]), ([5], [5]), ([6, 5], [5, 6]), ([7, 5], [5, 7]), ([5, 8], [5, 8]), ([9, 5], [9]), ([10], [10]), ([11, 10], [10, 11]), ([12, 10], [10, 12]), ([10], [10]), ([14, 10], [10, 14]), ([15, 10], [10, 15]), ([13, 16, 10], [10, 13, 16]), ([10, 17], [10, 17]), ([18, 10], [18]), ([19], [19]), ([20, 19], [19, 20]), ([21, 19], [19, 21]), ([19], [19]), ([23, 19], [19, 23]), ([24, 19], [19, 24]), ([25, 19], [19, 25]), ([22, 26, 19], [19, 22, 26]), ([19, 27], [19, 27]), ([28, 19, 0, 1, 2, 3, 4, 5, 6, 7, 8, 9, 10, 11, 12, 13, 14, 15, 16, 17, 18, 19, 20, 21, 22, 23, 24, 25, 26, 27, 28], [28])])
def roadbooklaw16_MemoOne.B13 : List Nat := [0, 0, 2, 6, 15, 31, 63, 127, 255, 511, 1023, 2047, 4095, 8191, 2047, 18431, 51199, 131071, 262143, 524287, 1048575, 2097151, 4194303, 1048575, 9437183, 26214399, 59768831, 134217727, 268435455, 536870911]
theorem roadbooklaw16_MemoOne.tab13 : rtab .any (opsOf Try.f15 13) = roadbooklaw16_MemoOne.T13 := by kernel_rfl
theorem roadbooklaw16_MemoOne.bits13 : waitsOk roadbooklaw16_MemoOne.T13.2 roadbooklaw16_MemoOne.B13 = true := by kernel_rfl
set_option maxHeartbeats 8000000 in
set_option maxRecDepth 100000 in
theorem roadbooklaw16_MemoOne.calls (k : Nat) (A0_0 : Option Addr) (c0_0 : Nat) (l0_0 : List (S48)) (A0_1 : Option Addr) (c0_1 : Nat) (l0_1 : List Int) (A0_2 : Option Addr) (c0_2 : Nat) (l0_2 : List Int) (a1_0 : Bool) (a1_1 : Int) (a1_2 : Int) (a1_3 : Int) (a2 : Int) (a3 : Int) (r : Bool) (w : World) (hr0_0 : Kd.C k48 w A0_0 l0_0.length l0_0) (hc0_0 : l0_0.length ≤ c0_0) (hr0_1 : Kd.C (Kd.int .i64) w A0_1 l0_1.length l0_1) (hc0_1 : l0_1.length ≤ c0_1) (hr0_2 : Kd.C (Kd.int .i64) w A0_2 l0_2.length l0_2) (hc0_2 : l0_2.length ≤ c0_2) (hrt : r = true) (h : roadbooklaw16_MemoOne.f k l0_0 l0_1 l0_2 a1_0 a1_1 a1_2 a1_3 a2 a3 = some r) :
    Calls Try.prog 15 #[.agg #[.slice A0_0 l0_0.length c0_0, .slice A0_1 l0_1.length c0_1, .slice A0_2 l0_2.length c0_2], .agg #[.bool a1_0, .int .i64 a1_1, .int .i64 a1_2, .int .i64 a1_3], .int .i64 a2, .int .i64 a3] w fun e w' => e = .returned (.bool r) ∧ Below w.heap.size w w' := by
  have HRT := Aside0.mk hrt
  clear hrt
  have hu38 := Try.underlying38
  have hu48 := Try.underlying48
  have HR0_0 := Aside0.mk hr0_0
  have HC0_0 := Aside0.mk hc0_0
  clear hr0_0 hc0_0
  have HR0_1 := Aside0.mk hr0_1
  have HC0_1 := Aside0.mk hc0_1
  clear hr0_1 hc0_1
  have HR0_2 := Aside0.mk hr0_2
  have HC0_2 := Aside0.mk hc0_2
  clear hr0_2 hc0_2
  have HB := Aside0.mk (Below.refl w.heap.size w)
  have H : ((roadbooklaw16_awake.f k).bind fun t13 => ((roadbooklaw16_few.f l0_0 l0_1 l0_2 60).bind fun t14 => (if t13 = true then (if t14 = true then ((memo_May.f l0_0 l0_1 l0_2).bind fun t15 => (roadbooklaw16_MemoOne.j0 k a2 a3 t13 (!t15) l0_0 l0_1 l0_2 a1_0 a1_1 a1_2 a1_3)) else (roadbooklaw16_MemoOne.j0 k a2 a3 t13 true l0_0 l0_1 l0_2 a1_0 a1_1 a1_2 a1_3)) else (roadbooklaw16_MemoOne.j0 k a2 a3 t13 true l0_0 l0_1 l0_2 a1_0 a1_1 a1_2 a1_3)))) = some r := h
  clear h
  replace H := Option.bind_eq_some_iff.mp H
  obtain ⟨t13, A50, H⟩ := H
  replace H : ((roadbooklaw16_few.f l0_0 l0_1 l0_2 60).bind fun t14 => (if t13 = true then (if t14 = true then ((memo_May.f l0_0 l0_1 l0_2).bind fun t15 => (roadbooklaw16_MemoOne.j0 k a2 a3 t13 (!t15) l0_0 l0_1 l0_2 a1_0 a1_1 a1_2 a1_3)) else (roadbooklaw16_MemoOne.j0 k a2 a3 t13 true l0_0 l0_1 l0_2 a1_0 a1_1 a1_2 a1_3)) else (roadbooklaw16_MemoOne.j0 k a2 a3 t13 true l0_0 l0_1 l0_2 a1_0 a1_1 a1_2 a1_3))) = some r := H
  have A5 := Aside0.mk A50
  clear A50
  replace H := Option.bind_eq_some_iff.mp H
  obtain ⟨t14, A60, H⟩ := H
  replace H : (if t13 = true then (if t14 = true then ((memo_May.f l0_0 l0_1 l0_2).bind fun t15 => (roadbooklaw16_MemoOne.j0 k a2 a3 t13 (!t15) l0_0 l0_1 l0_2 a1_0 a1_1 a1_2 a1_3)) else (roadbooklaw16_MemoOne.j0 k a2 a3 t13 true l0_0 l0_1 l0_2 a1_0 a1_1 a1_2 a1_3)) else (roadbooklaw16_MemoOne.j0 k a2 a3 t13 true l0_0 l0_1 l0_2 a1_0 a1_1 a1_2 a1_3)) = some r := H
  have A6 := Aside0.mk A60
  clear A60
  have HC7 := Aside0.mk H
  clear H
  go_enter Try.func15, Try.ntmps15
  go_upto_region 3 with (first | ((with_reducible refine gate_dst (N := 4) rfl ?_); (try (refine gate_guard (by rfl) ?_; dsimp only)); refine box_event ?hg (N := 4) ?hd (cs := #[.slice A0_0 l0_0.length c0_0, .slice A0_1 l0_1.length c0_1, .slice A0_2 l0_2.length c0_2]) (t := 38) ?hr ?_; (case hd => rfl); (case hg => rfl); (case hr => first | (go_simp; done) | (go_simp; rfl)); intro gb11 hg w8 hbox hb; have n0_ := Aside0.mk (below_step (by first | exact wM HB.out) hb); have n1_ := Aside0.mk (hbox); have n2_ := Aside0.mk ((by rw [hg]; exact (below_size (by first | exact wM HB.out)) : w.heap.size ≤ gb11)); have n3_ := Aside0.mk ((by rw [hg]; exact (below_size (by first | exact wM HB.out)) : w.heap.size ≤ gb11)); clear HB; have HB := n0_; have BK11 := n1_; have GW11 := n2_; have GE11 := n3_; clear n0_ n1_ n2_ n3_; clear hb hbox hg) | ((with_reducible refine gate_dst (N := 5) rfl ?_); (try (refine gate_guard (by rfl) ?_; dsimp only)); refine box_event ?hg (N := 5) ?hd (cs := #[.bool a1_0, .int .i64 a1_1, .int .i64 a1_2, .int .i64 a1_3]) (t := 48) ?hr ?_; (case hd => rfl); (case hg => rfl); (case hr => first | (go_simp; done) | (go_simp; rfl)); intro gb12 hg w9 hbox hb; have n0_ := Aside0.mk (blk_below (kM BK11.out) hb); have n1_ := Aside0.mk (below_step (by first | exact wM HB.out | exact wF HB.out GE11.out | exact wF1 HB.out GE11.out) hb); have n2_ := Aside0.mk (hbox); have n3_ := Aside0.mk ((by rw [hg]; exact (below_size (by first | exact wM HB.out | exact wF HB.out GE11.out | exact wF1 HB.out GE11.out)) : w.heap.size ≤ gb12)); have n4_ := Aside0.mk ((by rw [hg]; exact (below_size (by first | exact wM HB.out | exact wF HB.out GE11.out | exact wF1 HB.out GE11.out)) : w.heap.size ≤ gb12)); have n5_ := Aside0.mk ((by rw [hg]; exact Nat.ne_of_lt (blk_lt (kM BK11.out)) : gb11 ≠ gb12)); have n6_ := Aside0.mk ((by rw [hg]; exact Nat.ne_of_gt (blk_lt (kM BK11.out)) : gb12 ≠ gb11)); clear BK11; clear HB; have BK11 := n0_; have HB := n1_; have BK12 := n2_; have GW12 := n3_; have GE12 := n4_; have NB11_12 := n5_; have NB12_11 := n6_; clear n0_ n1_ n2_ n3_ n4_ n5_ n6_; clear hb hbox hg) | ((with_reducible refine gate_callee (f := 38) rfl ?_); refine goesL_ (some 20) rfl rfl Try.func38 (by kernel_rfl) rfl #[] rfl (by (try simp only [List.map_toArray, List.map_cons, List.map_nil]); first | done | rfl | (simp only [List.length_drop, List.length_take]; rfl)) ?_; (with_reducible refine (roadbooklaw16_awake.calls k  t13 _ A5.out).mono ?_); rintro e w10 ⟨rfl, hb⟩; refine ⟨_, rfl, ?_⟩; have n0_ := Aside0.mk (blk_below (kM BK11.out) hb); have n1_ := Aside0.mk (blk_below (kM BK12.out) hb); have n2_ := Aside0.mk (below_step (by first | exact wM HB.out | exact wF HB.out GE11.out | exact wF1 HB.out GE11.out | exact wF HB.out GE12.out | exact wF1 HB.out GE12.out) hb); clear BK11; clear BK12; clear HB; have BK11 := n0_; have BK12 := n1_; have HB := n2_; clear n0_ n1_ n2_; (try clear hb); (try clear hb2); (try clear hk); (try clear hi); have hnb11 := NB11_12.out; have hnc11 := NB12_11.out; have hcz12_0 : w10.cell? ⟨gb11, 0, none⟩ = some (.slice A0_0 l0_0.length c0_0) := (blk_cell BK11.out 0).trans rfl; have hcz12_1 : w10.cell? ⟨gb11, 1, none⟩ = some (.slice A0_1 l0_1.length c0_1) := (blk_cell BK11.out 1).trans rfl; have hcz12_2 : w10.cell? ⟨gb11, 2, none⟩ = some (.slice A0_2 l0_2.length c0_2) := (blk_cell BK11.out 2).trans rfl; have hfz12_0 := blk_frozen BK11.out 0; have hfz12_1 := blk_frozen BK11.out 1; have hfz12_2 := blk_frozen BK11.out 2) | ((with_reducible refine gate_callee (f := 39) rfl ?_); refine goesL_ (some 22) rfl rfl Try.func39 (by kernel_rfl) rfl #[.agg #[.slice A0_0 l0_0.length c0_0, .slice A0_1 l0_1.length c0_1, .slice A0_2 l0_2.length c0_2], .int .i64 60] rfl (by (try simp only [List.map_toArray, List.map_cons, List.map_nil]); first | done | rfl | (simp only [List.length_drop, List.length_take]; rfl)) ?_; (with_reducible refine (roadbooklaw16_few.calls _ _ l0_0 _ _ l0_1 _ _ l0_2 60 t14 _ ?side1 ?side2 ?side3 ?side4 ?side5 ?side6 A6.out).mono ?_); (case side1 => exact cM (Kd.C_below HR0_0.out HB.out)); (case side2 => exact HC0_0.out); (case side3 => exact cM (Kd.C_below HR0_1.out HB.out)); (case side4 => exact HC0_1.out); (case side5 => exact cM (Kd.C_below HR0_2.out HB.out)); (case side6 => exact HC0_2.out); rintro e w13 ⟨rfl, hb⟩; refine ⟨_, rfl, ?_⟩; have n0_ := Aside0.mk (blk_below (kM BK11.out) hb); have n1_ := Aside0.mk (blk_below (kM BK12.out) hb); have n2_ := Aside0.mk (below_step (by first | exact wM HB.out | exact wF HB.out GE11.out | exact wF1 HB.out GE11.out | exact wF HB.out GE12.out | exact wF1 HB.out GE12.out) hb); clear BK11; clear BK12; clear HB; have BK11 := n0_; have BK12 := n1_; have HB := n2_; clear n0_ n1_ n2_; (try clear hb); (try clear hb2); (try clear hk); (try clear hi)))
  (try simp only [Act.put, List.setIfInBounds_toArray, List.set_cons_zero, List.set_cons_succ])
  go_cut [33] (fun v33 wc => ∃ (kq : Nat) (x33_6 : Bool), v33 = .bool x33_6 ∧ Aside0 (roadbooklaw16_MemoOne.j0 kq a2 a3 t13 x33_6 l0_0 l0_1 l0_2 a1_0 a1_1 a1_2 a1_3 = some r) ∧ Aside0 (kq ≤ k) ∧ Aside0 (wc.heap[gb11]? = some (.cells #[(.slice A0_0 l0_0.length c0_0), (.slice A0_1 l0_1.length c0_1), (.slice A0_2 l0_2.length c0_2)] 38 (0, 0))) ∧ Aside0 (wc.heap[gb12]? = some (.cells #[.bool a1_0, .int .i64 a1_1, .int .i64 a1_2, .int .i64 a1_3] 48 (0, 0))) ∧ Aside0 (Below w.heap.size w wc))
  case first =>
    have H := HC7.out
    clear HC7
    by_cases c14 : t13 = true
    · subst c14
      have H1 : (if t14 = true then ((memo_May.f l0_0 l0_1 l0_2).bind fun t15 => (roadbooklaw16_MemoOne.j0 k a2 a3 true (!t15) l0_0 l0_1 l0_2 a1_0 a1_1 a1_2 a1_3)) else (roadbooklaw16_MemoOne.j0 k a2 a3 true true l0_0 l0_1 l0_2 a1_0 a1_1 a1_2 a1_3)) = some r := by rw [if_pos rfl] at H; exact H
      clear H
      have H := H1
      clear H1
      by_cases c15 : t14 = true
      · subst c15
        have H1 : ((memo_May.f l0_0 l0_1 l0_2).bind fun t15 => (roadbooklaw16_MemoOne.j0 k a2 a3 true (!t15) l0_0 l0_1 l0_2 a1_0 a1_1 a1_2 a1_3)) = some r := by rw [if_pos rfl] at H; exact H
        clear H
        have H := H1
        clear H1
        replace H := Option.bind_eq_some_iff.mp H
        obtain ⟨t15, A160, H⟩ := H
        replace H : (roadbooklaw16_MemoOne.j0 k a2 a3 true (!t15) l0_0 l0_1 l0_2 a1_0 a1_1 a1_2 a1_3) = some r := H
        have A16 := Aside0.mk A160
        clear A160
        have H' := Aside0.mk H
        clear H
        have hnb17 := NB11_12.out
        have hnc17 := NB12_11.out
        have hcz18_0 : w13.cell? ⟨gb11, 0, none⟩ = some (.slice A0_0 l0_0.length c0_0) := (blk_cell BK11.out 0).trans rfl
        have hcz18_1 : w13.cell? ⟨gb11, 1, none⟩ = some (.slice A0_1 l0_1.length c0_1) := (blk_cell BK11.out 1).trans rfl
        have hcz18_2 : w13.cell? ⟨gb11, 2, none⟩ = some (.slice A0_2 l0_2.length c0_2) := (blk_cell BK11.out 2).trans rfl
        have hfz18_0 := blk_frozen BK11.out 0
        have hfz18_1 := blk_frozen BK11.out 1
        have hfz18_2 := blk_frozen BK11.out 2
        go_wp2_with (first | (go_at_call 41; (with_reducible refine (memo_May.calls _ _ l0_0 _ _ l0_1 _ _ l0_2 t15 _ ?side1 ?side2 ?side3 ?side4 ?side5 ?side6 A16.out).mono ?_); (case side1 => exact cM (Kd.C_below HR0_0.out HB.out)); (case side2 => exact HC0_0.out); (case side3 => exact cM (Kd.C_below HR0_1.out HB.out)); (case side4 => exact HC0_1.out); (case side5 => exact cM (Kd.C_below HR0_2.out HB.out)); (case side6 => exact HC0_2.out); rintro e w19 ⟨rfl, hb⟩; have n0_ := Aside0.mk (blk_below (kM BK11.out) hb); have n1_ := Aside0.mk (blk_below (kM BK12.out) hb); have n2_ := Aside0.mk (below_step (by first | exact wM HB.out | exact wF HB.out GE11.out | exact wF1 HB.out GE11.out | exact wF HB.out GE12.out | exact wF1 HB.out GE12.out) hb); clear BK11; clear BK12; clear HB; have BK11 := n0_; have BK12 := n1_; have HB := n2_; clear n0_ n1_ n2_; (try clear hb); (try clear hb2); (try clear hk); (try clear hi)))
        go_meet
        case rel => exact ⟨_, (!t15), (by first | rfl | (simp; done) | (simp [*]; done)), H', ⟨by first | omega | exact Nat.le_refl _⟩, ⟨by (with_reducible repeat (first | refine blk_drewN ?_ _ | refine blk_drew ?_ | refine blk_alloc ?_ _)); exact BK11.out⟩, ⟨by (with_reducible repeat (first | refine blk_drewN ?_ _ | refine blk_drew ?_ | refine blk_alloc ?_ _)); exact BK12.out⟩, ⟨by repeat (first | (with_reducible first | exact HB.out | apply below_alloc | apply pw_below_drewN | apply below_drew1 | refine below_set ?_ GE11.out | refine below_set ?_ GE12.out) | exact HB.out)⟩⟩
      · replace c15 := Bool.eq_false_iff.mpr c15
        subst c15
        have H1 : (roadbooklaw16_MemoOne.j0 k a2 a3 true true l0_0 l0_1 l0_2 a1_0 a1_1 a1_2 a1_3) = some r := by rw [if_neg (show ¬ (false = true) by decide)] at H; exact H
        clear H
        have H := H1
        clear H1
        have H' := Aside0.mk H
        clear H
        go_wp2
        go_meet
        case rel => exact ⟨_, (true), (by first | rfl | (simp; done) | (simp [*]; done)), H', ⟨by first | omega | exact Nat.le_refl _⟩, ⟨by (with_reducible repeat (first | refine blk_drewN ?_ _ | refine blk_drew ?_ | refine blk_alloc ?_ _)); exact BK11.out⟩, ⟨by (with_reducible repeat (first | refine blk_drewN ?_ _ | refine blk_drew ?_ | refine blk_alloc ?_ _)); exact BK12.out⟩, ⟨by repeat (first | (with_reducible first | exact HB.out | apply below_alloc | apply pw_below_drewN | apply below_drew1 | refine below_set ?_ GE11.out | refine below_set ?_ GE12.out) | exact HB.out)⟩⟩
    · replace c14 := Bool.eq_false_iff.mpr c14
      subst c14
      have H1 : (roadbooklaw16_MemoOne.j0 k a2 a3 false true l0_0 l0_1 l0_2 a1_0 a1_1 a1_2 a1_3) = some r := by rw [if_neg (show ¬ (false = true) by decide)] at H; exact H
      clear H
      have H := H1
      clear H1
      have H' := Aside0.mk H
      clear H
      go_wp2
      go_meet
      case rel => exact ⟨_, (true), (by first | rfl | (simp; done) | (simp [*]; done)), H', ⟨by first | omega | exact Nat.le_refl _⟩, ⟨by (with_reducible repeat (first | refine blk_drewN ?_ _ | refine blk_drew ?_ | refine blk_alloc ?_ _)); exact BK11.out⟩, ⟨by (with_reducible repeat (first | refine blk_drewN ?_ _ | refine blk_drew ?_ | refine blk_alloc ?_ _)); exact BK12.out⟩, ⟨by repeat (first | (with_reducible first | exact HB.out | apply below_alloc | apply pw_below_drewN | apply below_drew1 | refine below_set ?_ GE11.out | refine below_set ?_ GE12.out) | exact HB.out)⟩⟩
  case rest =>
    clear HC7
    try clear c1
    try clear p2
    try clear c3
    try clear c11
    try clear c14
    try clear c15
    try clear c17
    try clear hcz12_0
    try clear hcz12_1
    try clear hcz12_2
    try clear hcz18_0
    try clear hcz18_1
    try clear hcz18_2
    try clear hfz12_0
    try clear hfz12_1
    try clear hfz12_2
    try clear hfz18_0
    try clear hfz18_1
    try clear hfz18_2
    obtain ⟨kq, x33_6, rfl, HA, HJ6, BK11, BK12, HB⟩ := hcut
    cases kq with
    | zero => exact absurd HA.out (by simp [roadbooklaw16_MemoOne.j0])
    | succ kj6 =>
      have H := HA.out
      clear HA
      simp only [roadbooklaw16_MemoOne.j0] at H
      by_cases c20 : x33_6 = true
      · subst c20
        have H1 : (some t13) = some r := by rw [if_pos rfl] at H; exact H
        clear H
        have H := H1
        clear H1
        obtain rfl := Option.some.inj H
        go_wp2
        go_ret
        exact ⟨by first | rfl | (simp [errW_none, errW_some] <;> rfl) | (simp [*, errW_none, errW_some] <;> rfl), by repeat (first | (with_reducible first | exact HB.out | apply below_alloc | apply pw_below_drewN | apply below_drew1 | refine below_set ?_ GE11.out | refine below_set ?_ GE12.out) | exact HB.out)⟩
      · replace c20 := Bool.eq_false_iff.mpr c20
        subst c20
        have H1 : ((memo_Merge.f kj6 l0_0 l0_1 l0_2 a2 a3).bind fun bt16 => (if bt16.2.2.2.2 = 0 then ((memo_Find.f kj6 l0_0 l0_1 l0_2 a2).bind fun t28 => ((memo_Find.f kj6 l0_0 l0_1 l0_2 a3).bind fun t29 => (if t28 = t29 then ((memo_Same.f kj6 bt16.1 bt16.2.1 bt16.2.2.1 l0_0 l0_1 l0_2).bind fun t30 => (roadbooklaw16_MemoOne.j1 kj6 (!t30) l0_0 l0_1 l0_2 a1_0 a1_1 a1_2 a1_3)) else (roadbooklaw16_MemoOne.j1 kj6 false l0_0 l0_1 l0_2 a1_0 a1_1 a1_2 a1_3)))) else (roadbooklaw16_MemoOne.j1 kj6 false l0_0 l0_1 l0_2 a1_0 a1_1 a1_2 a1_3))) = some r := by rw [if_neg (show ¬ (false = true) by decide)] at H; exact H
        clear H
        have H := H1
        clear H1
        replace H := Option.bind_eq_some_iff.mp H
        obtain ⟨⟨t16, t19, t22, t25, t26⟩, A210, H⟩ := H
        replace H : (if t26 = 0 then ((memo_Find.f kj6 l0_0 l0_1 l0_2 a2).bind fun t28 => ((memo_Find.f kj6 l0_0 l0_1 l0_2 a3).bind fun t29 => (if t28 = t29 then ((memo_Same.f kj6 t16 t19 t22 l0_0 l0_1 l0_2).bind fun t30 => (roadbooklaw16_MemoOne.j1 kj6 (!t30) l0_0 l0_1 l0_2 a1_0 a1_1 a1_2 a1_3)) else (roadbooklaw16_MemoOne.j1 kj6 false l0_0 l0_1 l0_2 a1_0 a1_1 a1_2 a1_3)))) else (roadbooklaw16_MemoOne.j1 kj6 false l0_0 l0_1 l0_2 a1_0 a1_1 a1_2 a1_3)) = some r := H
        have A21 := Aside0.mk A210
        clear A210
        have HC22 := Aside0.mk H
        clear H
        have hnb23 := NB11_12.out
        have hnc23 := NB12_11.out
        have hcz24_0 : wc.cell? ⟨gb11, 0, none⟩ = some (.slice A0_0 l0_0.length c0_0) := (blk_cell BK11.out 0).trans rfl
        have hcz24_1 : wc.cell? ⟨gb11, 1, none⟩ = some (.slice A0_1 l0_1.length c0_1) := (blk_cell BK11.out 1).trans rfl
        have hcz24_2 : wc.cell? ⟨gb11, 2, none⟩ = some (.slice A0_2 l0_2.length c0_2) := (blk_cell BK11.out 2).trans rfl
        have hfz24_0 := blk_frozen BK11.out 0
        have hfz24_1 := blk_frozen BK11.out 1
        have hfz24_2 := blk_frozen BK11.out 2
        go_upto_region 6 with (first | ((with_reducible refine gate_callee (f := 40) rfl ?_); refine goesL_ (some 39) rfl rfl Try.func40 (by kernel_rfl) rfl #[.agg #[.slice A0_0 l0_0.length c0_0, .slice A0_1 l0_1.length c0_1, .slice A0_2 l0_2.length c0_2], .int .i64 a2, .int .i64 a3] rfl (by (try simp only [List.map_toArray, List.map_cons, List.map_nil]); first | done | rfl | (simp only [List.length_drop, List.length_take]; rfl)) ?_; (with_reducible refine (memo_Merge.calls kj6 _ _ l0_0 _ _ l0_1 _ _ l0_2 a2 a3 t16 t19 t22 t25 t26 _ ?side1 ?side2 ?side3 ?side4 ?side5 ?side6 A21.out).mono ?_); (case side1 => exact cM (Kd.C_below HR0_0.out HB.out)); (case side2 => exact HC0_0.out); (case side3 => exact cM (Kd.C_below HR0_1.out HB.out)); (case side4 => exact HC0_1.out); (case side5 => exact cM (Kd.C_below HR0_2.out HB.out)); (case side6 => exact HC0_2.out); rintro e w25 ⟨v17, v20, v23, rfl, ho0, ho1, ho2, hb⟩; refine ⟨_, rfl, ?_⟩; have n0_ := Aside0.mk (Kd.R_lower (Kd.R_newB ho0 (kM BK12.out)) (below_size (by first | exact wM HB.out | exact wF HB.out GE11.out | exact wF1 HB.out GE11.out | exact wF HB.out GE12.out | exact wF1 HB.out GE12.out))); have n1_ := Aside0.mk (Kd.R_lower ho1 (below_size (by first | exact wM HB.out | exact wF HB.out GE11.out | exact wF1 HB.out GE11.out | exact wF HB.out GE12.out | exact wF1 HB.out GE12.out))); have n2_ := Aside0.mk (Kd.R_lower ho2 (below_size (by first | exact wM HB.out | exact wF HB.out GE11.out | exact wF1 HB.out GE11.out | exact wF HB.out GE12.out | exact wF1 HB.out GE12.out))); have n3_ := Aside0.mk (blk_below (kM BK11.out) hb); have n4_ := Aside0.mk (blk_below (kM BK12.out) hb); have n5_ := Aside0.mk (below_step (by first | exact wM HB.out | exact wF HB.out GE11.out | exact wF1 HB.out GE11.out | exact wF HB.out GE12.out | exact wF1 HB.out GE12.out) hb); clear BK11; clear BK12; clear HB; have HO18 := n0_; have HO21 := n1_; have HO24 := n2_; have BK11 := n3_; have BK12 := n4_; have HB := n5_; clear n0_ n1_ n2_ n3_ n4_ n5_; (try clear hb); (try clear hb2); (try clear hk); (try clear hi); (try clear ho0); (try clear ho1); (try clear ho2)) | ((with_reducible refine gate_dst (N := 11) rfl ?_); (try (refine gate_guard (by rfl) ?_; dsimp only)); refine box_event ?hg (N := 11) ?hd (cs := #[.slice none 0 0, .slice none 0 0, .slice none 0 0]) (t := 38) ?hr ?_; (case hd => rfl); (case hg => rfl); (case hr => first | (go_simp; done) | (go_simp; rfl)); intro gb27 hg w26 hbox hb; have n0_ := Aside0.mk (Kd.R_below (rM HO18.out) hb); have n1_ := Aside0.mk (Kd.R_below (rM HO21.out) hb); have n2_ := Aside0.mk (Kd.R_below (rM HO24.out) hb); have n3_ := Aside0.mk (blk_below (kM BK11.out) hb); have n4_ := Aside0.mk (blk_below (kM BK12.out) hb); have n5_ := Aside0.mk (below_step (by first | exact wM HB.out | exact wF HB.out GE11.out | exact wF1 HB.out GE11.out | exact wF HB.out GE12.out | exact wF1 HB.out GE12.out) hb); have n6_ := Aside0.mk (hbox); have n7_ := Aside0.mk ((by rw [hg]; exact (below_size (by first | exact wM HB.out | exact wF HB.out GE11.out | exact wF1 HB.out GE11.out | exact wF HB.out GE12.out | exact wF1 HB.out GE12.out)) : w.heap.size ≤ gb27)); have n8_ := Aside0.mk ((by rw [hg]; exact (below_size (by first | exact wM HB.out | exact wF HB.out GE11.out | exact wF1 HB.out GE11.out | exact wF HB.out GE12.out | exact wF1 HB.out GE12.out)) : w.heap.size ≤ gb27)); have n9_ := Aside0.mk ((by rw [hg]; exact Nat.ne_of_lt (blk_lt (kM BK11.out)) : gb11 ≠ gb27)); have n10_ := Aside0.mk ((by rw [hg]; exact Nat.ne_of_gt (blk_lt (kM BK11.out)) : gb27 ≠ gb11)); have n11_ := Aside0.mk ((by rw [hg]; exact Nat.ne_of_lt (blk_lt (kM BK12.out)) : gb12 ≠ gb27)); have n12_ := Aside0.mk ((by rw [hg]; exact Nat.ne_of_gt (blk_lt (kM BK12.out)) : gb27 ≠ gb12)); clear HO18; clear HO21; clear HO24; clear BK11; clear BK12; clear HB; have HO18 := n0_; have HO21 := n1_; have HO24 := n2_; have BK11 := n3_; have BK12 := n4_; have HB := n5_; have BK27 := n6_; have GW27 := n7_; have GE27 := n8_; have NB11_27 := n9_; have NB27_11 := n10_; have NB12_27 := n11_; have NB27_12 := n12_; clear n0_ n1_ n2_ n3_ n4_ n5_ n6_ n7_ n8_ n9_ n10_ n11_ n12_; clear hb hbox hg; obtain ⟨Ao27, co27, eo27⟩ := Kd.R_slice HO18.out; subst eo27; have hnb28 := NB27_11.out; have hnc28 := NB11_27.out; have hnb29 := NB27_12.out; have hnc29 := NB12_27.out; have hcz30_0 : w26.cell? ⟨gb27, 0, none⟩ = some (.slice none 0 0) := (blk_cell BK27.out 0).trans rfl; have hcz30_1 : w26.cell? ⟨gb27, 1, none⟩ = some (.slice none 0 0) := (blk_cell BK27.out 1).trans rfl; have hcz30_2 : w26.cell? ⟨gb27, 2, none⟩ = some (.slice none 0 0) := (blk_cell BK27.out 2).trans rfl; have hfz30_0 := blk_frozen BK27.out 0; have hfz30_1 := blk_frozen BK27.out 1; have hfz30_2 := blk_frozen BK27.out 2; obtain ⟨Ao31, co31, eo31⟩ := Kd.R_slice HO21.out; subst eo31; obtain ⟨Ao32, co32, eo32⟩ := Kd.R_slice HO24.out; subst eo32))
        (try simp only [Act.put, List.setIfInBounds_toArray, List.set_cons_zero, List.set_cons_succ])
        go_cut [59] (fun v59 wc => ∃ (kq : Nat) (x59_21 : Bool), v59 = .bool x59_21 ∧ Aside0 (roadbooklaw16_MemoOne.j1 kq x59_21 l0_0 l0_1 l0_2 a1_0 a1_1 a1_2 a1_3 = some r) ∧ Aside0 (kq ≤ kj6) ∧ Aside0 (Kd.R k48 48 wc w.heap.size (fun k_ => k_ ≠ gb12) (.slice Ao27 t16.length co27) t16) ∧ Aside0 (Kd.R (Kd.int .i64) 3 wc w.heap.size (fun k_ => some k_ ≠ ((.slice Ao32 t22.length co32) : Value).ownBlock) (.slice Ao31 t19.length co31) t19) ∧ Aside0 (Kd.R (Kd.int .i64) 3 wc w.heap.size (fun k_ => some k_ ≠ ((.slice Ao31 t19.length co31) : Value).ownBlock) (.slice Ao32 t22.length co32) t22) ∧ Aside0 (wc.heap[gb11]? = some (.cells #[(.slice A0_0 l0_0.length c0_0), (.slice A0_1 l0_1.length c0_1), (.slice A0_2 l0_2.length c0_2)] 38 (0, 0))) ∧ Aside0 (wc.heap[gb12]? = some (.cells #[.bool a1_0, .int .i64 a1_1, .int .i64 a1_2, .int .i64 a1_3] 48 (0, 0))) ∧ Aside0 (wc.heap[gb27]? = some (.cells #[(.slice Ao27 t16.length co27), (.slice Ao31 t19.length co31), (.slice Ao32 t22.length co32)] 38 (0, 0))) ∧ Aside0 (Below w.heap.size w wc))
        case first =>
          have H := HC22.out
          clear HC22
          by_cases c33 : t26 = 0
          · rw [if_pos c33] at H
            have c33b0 : (t26 == 0) = true := beq_iff_eq.mpr c33
            have c33b1 : (t26 != 0) = false := bne_eq_false_iff_eq.mpr c33
            clear c33
            (first | rw [c33b0] | (simp only [i64_w, i32_w]; rw [c33b0]) | skip)
            replace H := Option.bind_eq_some_iff.mp H
            obtain ⟨t28, A340, H⟩ := H
            replace H : ((memo_Find.f kj6 l0_0 l0_1 l0_2 a3).bind fun t29 => (if t28 = t29 then ((memo_Same.f kj6 t16 t19 t22 l0_0 l0_1 l0_2).bind fun t30 => (roadbooklaw16_MemoOne.j1 kj6 (!t30) l0_0 l0_1 l0_2 a1_0 a1_1 a1_2 a1_3)) else (roadbooklaw16_MemoOne.j1 kj6 false l0_0 l0_1 l0_2 a1_0 a1_1 a1_2 a1_3))) = some r := H
            have A34 := Aside0.mk A340
            clear A340
            replace H := Option.bind_eq_some_iff.mp H
            obtain ⟨t29, A350, H⟩ := H
            replace H : (if t28 = t29 then ((memo_Same.f kj6 t16 t19 t22 l0_0 l0_1 l0_2).bind fun t30 => (roadbooklaw16_MemoOne.j1 kj6 (!t30) l0_0 l0_1 l0_2 a1_0 a1_1 a1_2 a1_3)) else (roadbooklaw16_MemoOne.j1 kj6 false l0_0 l0_1 l0_2 a1_0 a1_1 a1_2 a1_3)) = some r := H
            have A35 := Aside0.mk A350
            clear A350
            by_cases c36 : t28 = t29
            · rw [if_pos c36] at H
              have c36b0 : (t28 == t29) = true := beq_iff_eq.mpr c36
              have c36b1 : (t28 != t29) = false := bne_eq_false_iff_eq.mpr c36
              clear c36
              replace H := Option.bind_eq_some_iff.mp H
              obtain ⟨t30, A370, H⟩ := H
              replace H : (roadbooklaw16_MemoOne.j1 kj6 (!t30) l0_0 l0_1 l0_2 a1_0 a1_1 a1_2 a1_3) = some r := H
              have A37 := Aside0.mk A370
              clear A370
              have H' := Aside0.mk H
              clear H
              try go_wp2
              have n0_ : Aside0 (Kd.R k48 48 (((w26.setCell ⟨gb27, 0, none⟩ (.slice Ao27 t16.length co27)).setCell ⟨gb27, 1, none⟩ (.slice Ao31 t19.length co31)).setCell ⟨gb27, 2, none⟩ (.slice Ao32 t22.length co32)) w.heap.size (fun k_ => k_ ≠ gb12) (.slice Ao27 t16.length co27) t16) := ⟨by (with_reducible repeat (first | apply Kd.R_alloc | apply Kd.R_drewN | apply Kd.R_drew)); exact Kd.R_mono (Kd.R_far (p := ⟨gb27, 2, none⟩) (Kd.R_far (p := ⟨gb27, 1, none⟩) (Kd.R_far (p := ⟨gb27, 0, none⟩) (Kd.R_types HO18.out BK27.out (by decide)) (fun _ hk => hk.2) (.slice Ao27 t16.length co27)) (fun _ hk => hk.2) (.slice Ao31 t19.length co31)) (fun _ hk => hk.2) (.slice Ao32 t22.length co32)) (fun _ hk => hk.1.2)⟩
              have n1_ : Aside0 (Kd.R (Kd.int .i64) 3 (((w26.setCell ⟨gb27, 0, none⟩ (.slice Ao27 t16.length co27)).setCell ⟨gb27, 1, none⟩ (.slice Ao31 t19.length co31)).setCell ⟨gb27, 2, none⟩ (.slice Ao32 t22.length co32)) w.heap.size (fun k_ => some k_ ≠ (.slice Ao32 t22.length co32 : Value).ownBlock) (.slice Ao31 t19.length co31) t19) := ⟨by (with_reducible repeat (first | apply Kd.R_alloc | apply Kd.R_drewN | apply Kd.R_drew)); exact Kd.R_mono (Kd.R_far (p := ⟨gb27, 2, none⟩) (Kd.R_far (p := ⟨gb27, 1, none⟩) (Kd.R_far (p := ⟨gb27, 0, none⟩) (Kd.R_types HO21.out BK27.out (by decide)) (fun _ hk => hk.2) (.slice Ao27 t16.length co27)) (fun _ hk => hk.2) (.slice Ao31 t19.length co31)) (fun _ hk => hk.2) (.slice Ao32 t22.length co32)) (fun _ hk => hk.1)⟩
              have n2_ : Aside0 (Kd.R (Kd.int .i64) 3 (((w26.setCell ⟨gb27, 0, none⟩ (.slice Ao27 t16.length co27)).setCell ⟨gb27, 1, none⟩ (.slice Ao31 t19.length co31)).setCell ⟨gb27, 2, none⟩ (.slice Ao32 t22.length co32)) w.heap.size (fun k_ => some k_ ≠ (.slice Ao31 t19.length co31 : Value).ownBlock) (.slice Ao32 t22.length co32) t22) := ⟨by (with_reducible repeat (first | apply Kd.R_alloc | apply Kd.R_drewN | apply Kd.R_drew)); exact Kd.R_mono (Kd.R_far (p := ⟨gb27, 2, none⟩) (Kd.R_far (p := ⟨gb27, 1, none⟩) (Kd.R_far (p := ⟨gb27, 0, none⟩) (Kd.R_types HO24.out BK27.out (by decide)) (fun _ hk => hk.2) (.slice Ao27 t16.length co27)) (fun _ hk => hk.2) (.slice Ao31 t19.length co31)) (fun _ hk => hk.2) (.slice Ao32 t22.length co32)) (fun _ hk => hk.1)⟩
              have n3_ : Aside0 ((((w26.setCell ⟨gb27, 0, none⟩ (.slice Ao27 t16.length co27)).setCell ⟨gb27, 1, none⟩ (.slice Ao31 t19.length co31)).setCell ⟨gb27, 2, none⟩ (.slice Ao32 t22.length co32)).heap[gb11]? = some (.cells #[.slice A0_0 l0_0.length c0_0, .slice A0_1 l0_1.length c0_1, .slice A0_2 l0_2.length c0_2] 38 (0, 0))) := ⟨by (with_reducible repeat (first | refine blk_drewN ?_ _ | refine blk_drew ?_ | refine blk_alloc ?_ _)); refine blk_far ?_ NB11_27.out _; (with_reducible repeat (first | refine blk_drewN ?_ _ | refine blk_drew ?_ | refine blk_alloc ?_ _)); refine blk_far ?_ NB11_27.out _; (with_reducible repeat (first | refine blk_drewN ?_ _ | refine blk_drew ?_ | refine blk_alloc ?_ _)); refine blk_far ?_ NB11_27.out _; (with_reducible repeat (first | refine blk_drewN ?_ _ | refine blk_drew ?_ | refine blk_alloc ?_ _)); exact BK11.out⟩
              have n4_ : Aside0 ((((w26.setCell ⟨gb27, 0, none⟩ (.slice Ao27 t16.length co27)).setCell ⟨gb27, 1, none⟩ (.slice Ao31 t19.length co31)).setCell ⟨gb27, 2, none⟩ (.slice Ao32 t22.length co32)).heap[gb12]? = some (.cells #[.bool a1_0, .int .i64 a1_1, .int .i64 a1_2, .int .i64 a1_3] 48 (0, 0))) := ⟨by (with_reducible repeat (first | refine blk_drewN ?_ _ | refine blk_drew ?_ | refine blk_alloc ?_ _)); refine blk_far ?_ NB12_27.out _; (with_reducible repeat (first | refine blk_drewN ?_ _ | refine blk_drew ?_ | refine blk_alloc ?_ _)); refine blk_far ?_ NB12_27.out _; (with_reducible repeat (first | refine blk_drewN ?_ _ | refine blk_drew ?_ | refine blk_alloc ?_ _)); refine blk_far ?_ NB12_27.out _; (with_reducible repeat (first | refine blk_drewN ?_ _ | refine blk_drew ?_ | refine blk_alloc ?_ _)); exact BK12.out⟩
              have n5_ : Aside0 ((((w26.setCell ⟨gb27, 0, none⟩ (.slice Ao27 t16.length co27)).setCell ⟨gb27, 1, none⟩ (.slice Ao31 t19.length co31)).setCell ⟨gb27, 2, none⟩ (.slice Ao32 t22.length co32)).heap[gb27]? = some (.cells #[.slice Ao27 t16.length co27, .slice Ao31 t19.length co31, .slice Ao32 t22.length co32] 38 (0, 0))) := ⟨by (with_reducible repeat (first | refine blk_drewN ?_ _ | refine blk_drew ?_ | refine blk_alloc ?_ _)); refine blk_put (cs := #[.slice Ao27 t16.length co27, .slice Ao31 t19.length co31, .slice none 0 0]) ?_ 2 _ rfl; (with_reducible repeat (first | refine blk_drewN ?_ _ | refine blk_drew ?_ | refine blk_alloc ?_ _)); refine blk_put (cs := #[.slice Ao27 t16.length co27, .slice none 0 0, .slice none 0 0]) ?_ 1 _ rfl; (with_reducible repeat (first | refine blk_drewN ?_ _ | refine blk_drew ?_ | refine blk_alloc ?_ _)); refine blk_put (cs := #[.slice none 0 0, .slice none 0 0, .slice none 0 0]) ?_ 0 _ rfl; (with_reducible repeat (first | refine blk_drewN ?_ _ | refine blk_drew ?_ | refine blk_alloc ?_ _)); exact BK27.out⟩
              have n6_ : Aside0 (Below w.heap.size w (((w26.setCell ⟨gb27, 0, none⟩ (.slice Ao27 t16.length co27)).setCell ⟨gb27, 1, none⟩ (.slice Ao31 t19.length co31)).setCell ⟨gb27, 2, none⟩ (.slice Ao32 t22.length co32))) := ⟨by repeat (first | (with_reducible first | exact HB.out | apply below_alloc | apply pw_below_drewN | apply below_drew1 | refine below_set ?_ GE11.out | refine below_set ?_ GE12.out | refine below_set ?_ GE27.out) | exact HB.out)⟩
              (try clear HO18)
              (try clear HO21)
              (try clear HO24)
              (try clear BK11)
              (try clear BK12)
              (try clear BK27)
              (try clear HB)
              generalize (((w26.setCell ⟨gb27, 0, none⟩ (.slice Ao27 t16.length co27)).setCell ⟨gb27, 1, none⟩ (.slice Ao31 t19.length co31)).setCell ⟨gb27, 2, none⟩ (.slice Ao32 t22.length co32)) = w38 at n0_ n1_ n2_ n3_ n4_ n5_ n6_ ⊢
              have HO18 := n0_
              have HO21 := n1_
              have HO24 := n2_
              have BK11 := n3_
              have BK12 := n4_
              have BK27 := n5_
              have HB := n6_
              clear n0_ n1_ n2_ n3_ n4_ n5_ n6_
              have n0_ := Aside0.mk (Kd.R_drew HO18.out)
              have n1_ := Aside0.mk (Kd.R_drew HO21.out)
              have n2_ := Aside0.mk (Kd.R_drew HO24.out)
              have n3_ := Aside0.mk (blk_drew BK11.out)
              have n4_ := Aside0.mk (blk_drew BK12.out)
              have n5_ := Aside0.mk (blk_drew BK27.out)
              have n6_ := Aside0.mk (below_drew1 HB.out)
              clear HO18
              clear HO21
              clear HO24
              clear BK11
              clear BK12
              clear BK27
              clear HB
              have HO18 := n0_
              have HO21 := n1_
              have HO24 := n2_
              have BK11 := n3_
              have BK12 := n4_
              have BK27 := n5_
              have HB := n6_
              clear n0_ n1_ n2_ n3_ n4_ n5_ n6_
              refine start_ (n := 17) (S := fun w' => w'.cell? ⟨gb11, 0, none⟩ = some (.slice A0_0 l0_0.length c0_0) ∧ w'.cell? ⟨gb11, 1, none⟩ = some (.slice A0_1 l0_1.length c0_1) ∧ w'.cell? ⟨gb11, 2, none⟩ = some (.slice A0_2 l0_2.length c0_2) ∧ w'.cell? ⟨gb27, 0, none⟩ = some (.slice Ao27 t16.length co27) ∧ w'.cell? ⟨gb27, 1, none⟩ = some (.slice Ao31 t19.length co31) ∧ w'.cell? ⟨gb27, 2, none⟩ = some (.slice Ao32 t22.length co32)) (ds := []) #[false, false, false, false, false, false, false, false, false, false, false, false, false, false, false, false, false] (by kernel_rfl) rfl rfl ⟨(blk_cell BK11.out 0).trans rfl, (blk_cell BK11.out 1).trans rfl, (blk_cell BK11.out 2).trans rfl, (blk_cell BK27.out 0).trans rfl, (blk_cell BK27.out 1).trans rfl, (blk_cell BK27.out 2).trans rfl⟩ (fun hHeld => ?_); refine with_tabW roadbooklaw16_MemoOne.tab6 roadbooklaw16_MemoOne.bits6 (fun HT_ HW_ => ?_)
              generalize w38.drew = w39 at HO18 HO21 HO24 BK11 BK12 BK27 HB hHeld ⊢
              refine pure_ (i := 0) (N := some 43) (v := ?_) (a' := ?_) #[true, false, false, false, false, false, false, false, false, false, false, false, false, false, false, false, false] rfl rfl (any_of HT_.out (by kernel_rfl)) (fun _ _ _ h => h) (Or.inl ⟨by rfl, ?_⟩) ?_ ?_
              rotate_left
              · intro w'
                go_simp
                with_reducible rfl
              rotate_left
              · simp only [Act.put, List.setIfInBounds_toArray, List.set_cons_zero, List.set_cons_succ, i64_w, i32_w]
                rfl
              refine pure_ (i := 1) (N := some 44) (v := ?_) (a' := ?_) #[true, true, false, false, false, false, false, false, false, false, false, false, false, false, false, false, false] rfl rfl (any_of HT_.out (by kernel_rfl)) (fun _ _ _ h => h) (Or.inl ⟨by rfl, ?_⟩) ?_ ?_
              rotate_left
              · intro w'
                go_simp
                with_reducible rfl
              rotate_left
              · simp only [Act.put, List.setIfInBounds_toArray, List.set_cons_zero, List.set_cons_succ, i64_w, i32_w]
                rfl
              refine pure_ (i := 2) (N := some 45) (v := ?_) (a' := ?_) #[true, true, true, false, false, false, false, false, false, false, false, false, false, false, false, false, false] rfl rfl (any_of HT_.out (by kernel_rfl)) (fun _ _ _ h => h) (Or.inl ⟨by rfl, ?_⟩) ?_ ?_
              rotate_left
              · intro w'
                go_simp
                with_reducible rfl
              rotate_left
              · simp only [Act.put, List.setIfInBounds_toArray, List.set_cons_zero, List.set_cons_succ, i64_w, i32_w]
                rfl
              refine pure_ (i := 4) (N := some 47) (v := ?_) (a' := ?_) #[true, true, true, false, true, false, false, false, false, false, false, false, false, false, false, false, false] rfl rfl (any_of HT_.out (by kernel_rfl)) (fun _ _ _ h => h) (Or.inl ⟨by rfl, ?_⟩) ?_ ?_
              rotate_left
              · intro w'
                go_simp
                with_reducible rfl
              rotate_left
              · simp only [Act.put, List.setIfInBounds_toArray, List.set_cons_zero, List.set_cons_succ, i64_w, i32_w]
                rfl
              refine pure_ (i := 7) (N := some 50) (v := ?_) (a' := ?_) #[true, true, true, false, true, false, false, true, false, false, false, false, false, false, false, false, false] rfl rfl (any_of HT_.out (by kernel_rfl)) (fun _ _ _ h => h) (Or.inl ⟨by rfl, ?_⟩) ?_ ?_
              rotate_left
              · intro w'
                go_simp
                with_reducible rfl
              rotate_left
              · simp only [Act.put, List.setIfInBounds_toArray, List.set_cons_zero, List.set_cons_succ, i64_w, i32_w]
                rfl
              refine take_ (i := 3) (N := some 46) (v := ?_) (a' := ?_) #[true, true, true, true, true, false, false, true, false, false, false, false, false, false, false, false, false] rfl rfl (take_ofW HT_.out HW_.out (by kernel_rfl)) (fun _ _ _ h => h) (Or.inl ⟨by rfl, ?_⟩) hHeld ?_ ?_
              rotate_left
              · rintro w' ⟨s0, s1, s2, s3, s4, s5⟩
                go_simp
                with_reducible rfl
              rotate_left
              · simp only [Act.put, List.setIfInBounds_toArray, List.set_cons_zero, List.set_cons_succ, i64_w, i32_w]
                rfl
              refine take_ (i := 6) (N := some 49) (v := ?_) (a' := ?_) #[true, true, true, true, true, false, true, true, false, false, false, false, false, false, false, false, false] rfl rfl (take_ofW HT_.out HW_.out (by kernel_rfl)) (fun _ _ _ h => h) (Or.inl ⟨by rfl, ?_⟩) hHeld ?_ ?_
              rotate_left
              · rintro w' ⟨s0, s1, s2, s3, s4, s5⟩
                go_simp
                with_reducible rfl
              rotate_left
              · simp only [Act.put, List.setIfInBounds_toArray, List.set_cons_zero, List.set_cons_succ, i64_w, i32_w]
                rfl
              refine one_ (i := 5) (N := some 48) #[true, true, true, true, true, true, true, true, false, false, false, false, false, false, false, false, false] rfl rfl (one_of HT_.out (by kernel_rfl)) (by decide) (fun K hK => ?_)
              refine goes_ Try.func42 (by kernel_rfl) rfl #[.agg #[.slice A0_0 l0_0.length c0_0, .slice A0_1 l0_1.length c0_1, .slice A0_2 l0_2.length c0_2], .int .i64 a2] (by rfl) rfl rfl (by (try simp only [List.map_toArray, List.map_cons, List.map_nil]); first | done | rfl | (simp only [List.length_drop, List.length_take]; rfl)) ?_
              with_reducible refine (memo_Find.calls kj6 _ _ l0_0 _ _ l0_1 _ _ l0_2 a2 t28 _ ?side1 ?side2 ?side3 ?side4 ?side5 ?side6 A34.out).mono ?_
              (case side1 => exact cM (Kd.C_below HR0_0.out HB.out))
              (case side2 => exact HC0_0.out)
              (case side3 => exact cM (Kd.C_below HR0_1.out HB.out))
              (case side4 => exact HC0_1.out)
              (case side5 => exact cM (Kd.C_below HR0_2.out HB.out))
              (case side6 => exact HC0_2.out)
              rintro e w40 ⟨rfl, hb⟩
              refine ⟨_, rfl, ?_⟩
              have n0_ := Aside0.mk (Kd.R_below (rM HO18.out) hb)
              have n1_ := Aside0.mk (Kd.R_below (rM HO21.out) hb)
              have n2_ := Aside0.mk (Kd.R_below (rM HO24.out) hb)
              have n3_ := Aside0.mk (blk_below (kM BK11.out) hb)
              have n4_ := Aside0.mk (blk_below (kM BK12.out) hb)
              have n5_ := Aside0.mk (blk_below (kM BK27.out) hb)
              have n6_ := Aside0.mk (below_step (by first | exact wM HB.out | exact wF HB.out GE11.out | exact wF1 HB.out GE11.out | exact wF HB.out GE12.out | exact wF1 HB.out GE12.out | exact wF HB.out GE27.out | exact wF1 HB.out GE27.out) hb)
              clear HO18
              clear HO21
              clear HO24
              clear BK11
              clear BK12
              clear BK27
              clear HB
              have HO18 := n0_
              have HO21 := n1_
              have HO24 := n2_
              have BK11 := n3_
              have BK12 := n4_
              have BK27 := n5_
              have HB := n6_
              clear n0_ n1_ n2_ n3_ n4_ n5_ n6_
              (try clear hb)
              (try clear hb2)
              (try clear hk)
              (try clear hi)
              refine hK.out _ _ ⟨(blk_cell BK11.out 0).trans rfl, (blk_cell BK11.out 1).trans rfl, (blk_cell BK11.out 2).trans rfl, (blk_cell BK27.out 0).trans rfl, (blk_cell BK27.out 1).trans rfl, (blk_cell BK27.out 2).trans rfl⟩ (fun hHeld => ?_)
              clear hK K
              refine norm_ (a' := ?_) ?_ ?_
              rotate_left
              · show Act.put _ (some 48) _ = _
                simp only [Act.put, List.setIfInBounds_toArray, List.set_cons_zero, List.set_cons_succ, i64_w, i32_w]
                rfl
              refine one_ (i := 8) (N := some 51) #[true, true, true, true, true, true, true, true, true, false, false, false, false, false, false, false, false] rfl rfl (one_of HT_.out (by kernel_rfl)) (by decide) (fun K hK => ?_)
              refine goes_ Try.func42 (by kernel_rfl) rfl #[.agg #[.slice A0_0 l0_0.length c0_0, .slice A0_1 l0_1.length c0_1, .slice A0_2 l0_2.length c0_2], .int .i64 a3] (by rfl) rfl rfl (by (try simp only [List.map_toArray, List.map_cons, List.map_nil]); first | done | rfl | (simp only [List.length_drop, List.length_take]; rfl)) ?_
              with_reducible refine (memo_Find.calls kj6 _ _ l0_0 _ _ l0_1 _ _ l0_2 a3 t29 _ ?side1 ?side2 ?side3 ?side4 ?side5 ?side6 A35.out).mono ?_
              (case side1 => exact cM (Kd.C_below HR0_0.out HB.out))
              (case side2 => exact HC0_0.out)
              (case side3 => exact cM (Kd.C_below HR0_1.out HB.out))
              (case side4 => exact HC0_1.out)
              (case side5 => exact cM (Kd.C_below HR0_2.out HB.out))
              (case side6 => exact HC0_2.out)
              rintro e w41 ⟨rfl, hb⟩
              refine ⟨_, rfl, ?_⟩
              have n0_ := Aside0.mk (Kd.R_below (rM HO18.out) hb)
              have n1_ := Aside0.mk (Kd.R_below (rM HO21.out) hb)
              have n2_ := Aside0.mk (Kd.R_below (rM HO24.out) hb)
              have n3_ := Aside0.mk (blk_below (kM BK11.out) hb)
              have n4_ := Aside0.mk (blk_below (kM BK12.out) hb)
              have n5_ := Aside0.mk (blk_below (kM BK27.out) hb)
              have n6_ := Aside0.mk (below_step (by first | exact wM HB.out | exact wF HB.out GE11.out | exact wF1 HB.out GE11.out | exact wF HB.out GE12.out | exact wF1 HB.out GE12.out | exact wF HB.out GE27.out | exact wF1 HB.out GE27.out) hb)
              clear HO18
              clear HO21
              clear HO24
              clear BK11
              clear BK12
              clear BK27
              clear HB
              have HO18 := n0_
              have HO21 := n1_
              have HO24 := n2_
              have BK11 := n3_
              have BK12 := n4_
              have BK27 := n5_
              have HB := n6_
              clear n0_ n1_ n2_ n3_ n4_ n5_ n6_
              (try clear hb)
              (try clear hb2)
              (try clear hk)
              (try clear hi)
              refine hK.out _ _ ⟨(blk_cell BK11.out 0).trans rfl, (blk_cell BK11.out 1).trans rfl, (blk_cell BK11.out 2).trans rfl, (blk_cell BK27.out 0).trans rfl, (blk_cell BK27.out 1).trans rfl, (blk_cell BK27.out 2).trans rfl⟩ (fun hHeld => ?_)
              clear hK K
              refine norm_ (a' := ?_) ?_ ?_
              rotate_left
              · show Act.put _ (some 51) _ = _
                simp only [Act.put, List.setIfInBounds_toArray, List.set_cons_zero, List.set_cons_succ, i64_w, i32_w]
                rfl
              refine pure_ (i := 9) (N := some 52) (v := ?_) (a' := ?_) #[true, true, true, true, true, true, true, true, true, true, false, false, false, false, false, false, false] rfl rfl (any_of HT_.out (by kernel_rfl)) (fun _ _ _ h => h) (Or.inl ⟨by rfl, ?_⟩) ?_ ?_
              rotate_left
              · intro w'
                go_simp
                with_reducible rfl
              rotate_left
              · simp only [Act.put, List.setIfInBounds_toArray, List.set_cons_zero, List.set_cons_succ, i64_w, i32_w]
                rfl
              refine pure_ (i := 10) (N := some 53) (v := ?_) (a' := ?_) #[true, true, true, true, true, true, true, true, true, true, true, false, false, false, false, false, false] rfl rfl (any_of HT_.out (by kernel_rfl)) (fun _ _ _ h => h) (Or.inl ⟨by rfl, ?_⟩) ?_ ?_
              rotate_left
              · intro w'
                go_simp
                with_reducible rfl
              rotate_left
              · simp only [Act.put, List.setIfInBounds_toArray, List.set_cons_zero, List.set_cons_succ, i64_w, i32_w]
                rfl
              refine pure_ (i := 11) (N := some 54) (v := ?_) (a' := ?_) #[true, true, true, true, true, true, true, true, true, true, true, true, false, false, false, false, false] rfl rfl (any_of HT_.out (by kernel_rfl)) (fun _ _ _ h => h) (Or.inl ⟨by rfl, ?_⟩) ?_ ?_
              rotate_left
              · intro w'
                go_simp
                with_reducible rfl
              rotate_left
              · simp only [Act.put, List.setIfInBounds_toArray, List.set_cons_zero, List.set_cons_succ, i64_w, i32_w]
                rfl
              refine take_ (i := 12) (N := some 55) (v := ?_) (a' := ?_) #[true, true, true, true, true, true, true, true, true, true, true, true, true, false, false, false, false] rfl rfl (take_ofW HT_.out HW_.out (by kernel_rfl)) (fun _ _ _ h => h) (Or.inl ⟨by rfl, ?_⟩) hHeld ?_ ?_
              rotate_left
              · rintro w' ⟨s0, s1, s2, s3, s4, s5⟩
                go_simp
                with_reducible rfl
              rotate_left
              · simp only [Act.put, List.setIfInBounds_toArray, List.set_cons_zero, List.set_cons_succ, i64_w, i32_w]
                rfl
              refine take_ (i := 13) (N := some 56) (v := ?_) (a' := ?_) #[true, true, true, true, true, true, true, true, true, true, true, true, true, true, false, false, false] rfl rfl (take_ofW HT_.out HW_.out (by kernel_rfl)) (fun _ _ _ h => h) (Or.inl ⟨by rfl, ?_⟩) hHeld ?_ ?_
              rotate_left
              · rintro w' ⟨s0, s1, s2, s3, s4, s5⟩
                go_simp
                with_reducible rfl
              rotate_left
              · simp only [Act.put, List.setIfInBounds_toArray, List.set_cons_zero, List.set_cons_succ, i64_w, i32_w]
                rfl
              refine one_ (i := 14) (N := some 57) #[true, true, true, true, true, true, true, true, true, true, true, true, true, true, true, false, false] rfl rfl (one_of HT_.out (by kernel_rfl)) (by decide) (fun K hK => ?_)
              refine goes_ Try.func46 (by kernel_rfl) rfl #[.agg #[.slice Ao27 t16.length co27, .slice Ao31 t19.length co31, .slice Ao32 t22.length co32], .agg #[.slice A0_0 l0_0.length c0_0, .slice A0_1 l0_1.length c0_1, .slice A0_2 l0_2.length c0_2]] (by rfl) rfl rfl (by (try simp only [List.map_toArray, List.map_cons, List.map_nil]); first | done | rfl | (simp only [List.length_drop, List.length_take]; rfl)) ?_
              with_reducible refine (memo_Same.calls kj6 _ _ t16 _ _ t19 _ _ t22 _ _ l0_0 _ _ l0_1 _ _ l0_2 t30 _ ?side1 ?side2 ?side3 ?side4 ?side5 ?side6 ?side7 ?side8 ?side9 ?side10 ?side11 ?side12 A37.out).mono ?_
              (case side1 => exact cM (Kd.R_reads' HO18.out).2.2)
              (case side2 => exact (Kd.R_reads' HO18.out).2.1)
              (case side3 => exact cM (Kd.R_reads' HO21.out).2.2)
              (case side4 => exact (Kd.R_reads' HO21.out).2.1)
              (case side5 => exact cM (Kd.R_reads' HO24.out).2.2)
              (case side6 => exact (Kd.R_reads' HO24.out).2.1)
              (case side7 => exact cM (Kd.C_below HR0_0.out HB.out))
              (case side8 => exact HC0_0.out)
              (case side9 => exact cM (Kd.C_below HR0_1.out HB.out))
              (case side10 => exact HC0_1.out)
              (case side11 => exact cM (Kd.C_below HR0_2.out HB.out))
              (case side12 => exact HC0_2.out)
              rintro e w42 ⟨rfl, hb⟩
              refine ⟨_, rfl, ?_⟩
              have n0_ := Aside0.mk (Kd.R_below (rM HO18.out) hb)
              have n1_ := Aside0.mk (Kd.R_below (rM HO21.out) hb)
              have n2_ := Aside0.mk (Kd.R_below (rM HO24.out) hb)
              have n3_ := Aside0.mk (blk_below (kM BK11.out) hb)
              have n4_ := Aside0.mk (blk_below (kM BK12.out) hb)
              have n5_ := Aside0.mk (blk_below (kM BK27.out) hb)
              have n6_ := Aside0.mk (below_step (by first | exact wM HB.out | exact wF HB.out GE11.out | exact wF1 HB.out GE11.out | exact wF HB.out GE12.out | exact wF1 HB.out GE12.out | exact wF HB.out GE27.out | exact wF1 HB.out GE27.out) hb)
              clear HO18
              clear HO21
              clear HO24
              clear BK11
              clear BK12
              clear BK27
              clear HB
              have HO18 := n0_
              have HO21 := n1_
              have HO24 := n2_
              have BK11 := n3_
              have BK12 := n4_
              have BK27 := n5_
              have HB := n6_
              clear n0_ n1_ n2_ n3_ n4_ n5_ n6_
              (try clear hb)
              (try clear hb2)
              (try clear hk)
              (try clear hi)
              refine hK.out _ _ ⟨(blk_cell BK11.out 0).trans rfl, (blk_cell BK11.out 1).trans rfl, (blk_cell BK11.out 2).trans rfl, (blk_cell BK27.out 0).trans rfl, (blk_cell BK27.out 1).trans rfl, (blk_cell BK27.out 2).trans rfl⟩ (fun hHeld => ?_)
              clear hK K
              refine norm_ (a' := ?_) ?_ ?_
              rotate_left
              · show Act.put _ (some 57) _ = _
                simp only [Act.put, List.setIfInBounds_toArray, List.set_cons_zero, List.set_cons_succ, i64_w, i32_w]
                rfl
              refine pure_ (i := 15) (N := some 58) (v := ?_) (a' := ?_) #[true, true, true, true, true, true, true, true, true, true, true, true, true, true, true, true, false] rfl rfl (any_of HT_.out (by kernel_rfl)) (fun _ _ _ h => h) (Or.inl ⟨by rfl, ?_⟩) ?_ ?_
              rotate_left
              · intro w'
                go_simp
                with_reducible rfl
              rotate_left
              · simp only [Act.put, List.setIfInBounds_toArray, List.set_cons_zero, List.set_cons_succ, i64_w, i32_w]
                rfl
              refine pure_ (i := 16) (N := some 59) (v := ?_) (a' := ?_) #[true, true, true, true, true, true, true, true, true, true, true, true, true, true, true, true, true] rfl rfl (any_of HT_.out (by kernel_rfl)) (fun _ _ _ h => h) (Or.inl ⟨by rfl, ?_⟩) ?_ ?_
              rotate_left
              · intro w'
                go_simp
                with_reducible rfl
              rotate_left
              · simp only [Act.put, List.setIfInBounds_toArray, List.set_cons_zero, List.set_cons_succ, i64_w, i32_w]
                rfl
              refine done_ (done_of HT_.out (by kernel_rfl)) ?_
              try go_wp2
              go_meet
              case rel => exact ⟨_, (!t30), (by first | rfl | (simp; done) | (simp [*]; done)), H', ⟨by have := HJ6.out; first | omega | exact Nat.le_refl _⟩, ⟨by (with_reducible repeat (first | apply Kd.R_alloc | apply Kd.R_drewN | apply Kd.R_drew)); exact HO18.out⟩, ⟨by (with_reducible repeat (first | apply Kd.R_alloc | apply Kd.R_drewN | apply Kd.R_drew)); exact HO21.out⟩, ⟨by (with_reducible repeat (first | apply Kd.R_alloc | apply Kd.R_drewN | apply Kd.R_drew)); exact HO24.out⟩, ⟨by (with_reducible repeat (first | refine blk_drewN ?_ _ | refine blk_drew ?_ | refine blk_alloc ?_ _)); exact BK11.out⟩, ⟨by (with_reducible repeat (first | refine blk_drewN ?_ _ | refine blk_drew ?_ | refine blk_alloc ?_ _)); exact BK12.out⟩, ⟨by (with_reducible repeat (first | refine blk_drewN ?_ _ | refine blk_drew ?_ | refine blk_alloc ?_ _)); exact BK27.out⟩, ⟨by repeat (first | (with_reducible first | exact HB.out | apply below_alloc | apply pw_below_drewN | apply below_drew1 | refine below_set ?_ GE11.out | refine below_set ?_ GE12.out | refine below_set ?_ GE27.out) | exact HB.out)⟩⟩
            · rw [if_neg c36] at H
              have c36b0 : (t28 == t29) = false := beq_eq_false_iff_ne.mpr c36
              have c36b1 : (t28 != t29) = true := bne_iff_ne.mpr c36
              have H' := Aside0.mk H
              clear H
              try go_wp2
              have n0_ : Aside0 (Kd.R k48 48 (((w26.setCell ⟨gb27, 0, none⟩ (.slice Ao27 t16.length co27)).setCell ⟨gb27, 1, none⟩ (.slice Ao31 t19.length co31)).setCell ⟨gb27, 2, none⟩ (.slice Ao32 t22.length co32)) w.heap.size (fun k_ => k_ ≠ gb12) (.slice Ao27 t16.length co27) t16) := ⟨by (with_reducible repeat (first | apply Kd.R_alloc | apply Kd.R_drewN | apply Kd.R_drew)); exact Kd.R_mono (Kd.R_far (p := ⟨gb27, 2, none⟩) (Kd.R_far (p := ⟨gb27, 1, none⟩) (Kd.R_far (p := ⟨gb27, 0, none⟩) (Kd.R_types HO18.out BK27.out (by decide)) (fun _ hk => hk.2) (.slice Ao27 t16.length co27)) (fun _ hk => hk.2) (.slice Ao31 t19.length co31)) (fun _ hk => hk.2) (.slice Ao32 t22.length co32)) (fun _ hk => hk.1.2)⟩
              have n1_ : Aside0 (Kd.R (Kd.int .i64) 3 (((w26.setCell ⟨gb27, 0, none⟩ (.slice Ao27 t16.length co27)).setCell ⟨gb27, 1, none⟩ (.slice Ao31 t19.length co31)).setCell ⟨gb27, 2, none⟩ (.slice Ao32 t22.length co32)) w.heap.size (fun k_ => some k_ ≠ (.slice Ao32 t22.length co32 : Value).ownBlock) (.slice Ao31 t19.length co31) t19) := ⟨by (with_reducible repeat (first | apply Kd.R_alloc | apply Kd.R_drewN | apply Kd.R_drew)); exact Kd.R_mono (Kd.R_far (p := ⟨gb27, 2, none⟩) (Kd.R_far (p := ⟨gb27, 1, none⟩) (Kd.R_far (p := ⟨gb27, 0, none⟩) (Kd.R_types HO21.out BK27.out (by decide)) (fun _ hk => hk.2) (.slice Ao27 t16.length co27)) (fun _ hk => hk.2) (.slice Ao31 t19.length co31)) (fun _ hk => hk.2) (.slice Ao32 t22.length co32)) (fun _ hk => hk.1)⟩
              have n2_ : Aside0 (Kd.R (Kd.int .i64) 3 (((w26.setCell ⟨gb27, 0, none⟩ (.slice Ao27 t16.length co27)).setCell ⟨gb27, 1, none⟩ (.slice Ao31 t19.length co31)).setCell ⟨gb27, 2, none⟩ (.slice Ao32 t22.length co32)) w.heap.size (fun k_ => some k_ ≠ (.slice Ao31 t19.length co31 : Value).ownBlock) (.slice Ao32 t22.length co32) t22) := ⟨by (with_reducible repeat (first | apply Kd.R_alloc | apply Kd.R_drewN | apply Kd.R_drew)); exact Kd.R_mono (Kd.R_far (p := ⟨gb27, 2, none⟩) (Kd.R_far (p := ⟨gb27, 1, none⟩) (Kd.R_far (p := ⟨gb27, 0, none⟩) (Kd.R_types HO24.out BK27.out (by decide)) (fun _ hk => hk.2) (.slice Ao27 t16.length co27)) (fun _ hk => hk.2) (.slice Ao31 t19.length co31)) (fun _ hk => hk.2) (.slice Ao32 t22.length co32)) (fun _ hk => hk.1)⟩
              have n3_ : Aside0 ((((w26.setCell ⟨gb27, 0, none⟩ (.slice Ao27 t16.length co27)).setCell ⟨gb27, 1, none⟩ (.slice Ao31 t19.length co31)).setCell ⟨gb27, 2, none⟩ (.slice Ao32 t22.length co32)).heap[gb11]? = some (.cells #[.slice A0_0 l0_0.length c0_0, .slice A0_1 l0_1.length c0_1, .slice A0_2 l0_2.length c0_2] 38 (0, 0))) := ⟨by (with_reducible repeat (first | refine blk_drewN ?_ _ | refine blk_drew ?_ | refine blk_alloc ?_ _)); refine blk_far ?_ NB11_27.out _; (with_reducible repeat (first | refine blk_drewN ?_ _ | refine blk_drew ?_ | refine blk_alloc ?_ _)); refine blk_far ?_ NB11_27.out _; (with_reducible repeat (first | refine blk_drewN ?_ _ | refine blk_drew ?_ | refine blk_alloc ?_ _)); refine blk_far ?_ NB11_27.out _; (with_reducible repeat (first | refine blk_drewN ?_ _ | refine blk_drew ?_ | refine blk_alloc ?_ _)); exact BK11.out⟩
              have n4_ : Aside0 ((((w26.setCell ⟨gb27, 0, none⟩ (.slice Ao27 t16.length co27)).setCell ⟨gb27, 1, none⟩ (.slice Ao31 t19.length co31)).setCell ⟨gb27, 2, none⟩ (.slice Ao32 t22.length co32)).heap[gb12]? = some (.cells #[.bool a1_0, .int .i64 a1_1, .int .i64 a1_2, .int .i64 a1_3] 48 (0, 0))) := ⟨by (with_reducible repeat (first | refine blk_drewN ?_ _ | refine blk_drew ?_ | refine blk_alloc ?_ _)); refine blk_far ?_ NB12_27.out _; (with_reducible repeat (first | refine blk_drewN ?_ _ | refine blk_drew ?_ | refine blk_alloc ?_ _)); refine blk_far ?_ NB12_27.out _; (with_reducible repeat (first | refine blk_drewN ?_ _ | refine blk_drew ?_ | refine blk_alloc ?_ _)); refine blk_far ?_ NB12_27.out _; (with_reducible repeat (first | refine blk_drewN ?_ _ | refine blk_drew ?_ | refine blk_alloc ?_ _)); exact BK12.out⟩
              have n5_ : Aside0 ((((w26.setCell ⟨gb27, 0, none⟩ (.slice Ao27 t16.length co27)).setCell ⟨gb27, 1, none⟩ (.slice Ao31 t19.length co31)).setCell ⟨gb27, 2, none⟩ (.slice Ao32 t22.length co32)).heap[gb27]? = some (.cells #[.slice Ao27 t16.length co27, .slice Ao31 t19.length co31, .slice Ao32 t22.length co32] 38 (0, 0))) := ⟨by (with_reducible repeat (first | refine blk_drewN ?_ _ | refine blk_drew ?_ | refine blk_alloc ?_ _)); refine blk_put (cs := #[.slice Ao27 t16.length co27, .slice Ao31 t19.length co31, .slice none 0 0]) ?_ 2 _ rfl; (with_reducible repeat (first | refine blk_drewN ?_ _ | refine blk_drew ?_ | refine blk_alloc ?_ _)); refine blk_put (cs := #[.slice Ao27 t16.length co27, .slice none 0 0, .slice none 0 0]) ?_ 1 _ rfl; (with_reducible repeat (first | refine blk_drewN ?_ _ | refine blk_drew ?_ | refine blk_alloc ?_ _)); refine blk_put (cs := #[.slice none 0 0, .slice none 0 0, .slice none 0 0]) ?_ 0 _ rfl; (with_reducible repeat (first | refine blk_drewN ?_ _ | refine blk_drew ?_ | refine blk_alloc ?_ _)); exact BK27.out⟩
              have n6_ : Aside0 (Below w.heap.size w (((w26.setCell ⟨gb27, 0, none⟩ (.slice Ao27 t16.length co27)).setCell ⟨gb27, 1, none⟩ (.slice Ao31 t19.length co31)).setCell ⟨gb27, 2, none⟩ (.slice Ao32 t22.length co32))) := ⟨by repeat (first | (with_reducible first | exact HB.out | apply below_alloc | apply pw_below_drewN | apply below_drew1 | refine below_set ?_ GE11.out | refine below_set ?_ GE12.out | refine below_set ?_ GE27.out) | exact HB.out)⟩
              (try clear HO18)
              (try clear HO21)
              (try clear HO24)
              (try clear BK11)
              (try clear BK12)
              (try clear BK27)
              (try clear HB)
              generalize (((w26.setCell ⟨gb27, 0, none⟩ (.slice Ao27 t16.length co27)).setCell ⟨gb27, 1, none⟩ (.slice Ao31 t19.length co31)).setCell ⟨gb27, 2, none⟩ (.slice Ao32 t22.length co32)) = w43 at n0_ n1_ n2_ n3_ n4_ n5_ n6_ ⊢
              have HO18 := n0_
              have HO21 := n1_
              have HO24 := n2_
              have BK11 := n3_
              have BK12 := n4_
              have BK27 := n5_
              have HB := n6_
              clear n0_ n1_ n2_ n3_ n4_ n5_ n6_
              have n0_ := Aside0.mk (Kd.R_drew HO18.out)
              have n1_ := Aside0.mk (Kd.R_drew HO21.out)
              have n2_ := Aside0.mk (Kd.R_drew HO24.out)
              have n3_ := Aside0.mk (blk_drew BK11.out)
              have n4_ := Aside0.mk (blk_drew BK12.out)
              have n5_ := Aside0.mk (blk_drew BK27.out)
              have n6_ := Aside0.mk (below_drew1 HB.out)
              clear HO18
              clear HO21
              clear HO24
              clear BK11
              clear BK12
              clear BK27
              clear HB
              have HO18 := n0_
              have HO21 := n1_
              have HO24 := n2_
              have BK11 := n3_
              have BK12 := n4_
              have BK27 := n5_
              have HB := n6_
              clear n0_ n1_ n2_ n3_ n4_ n5_ n6_
              refine start_ (n := 17) (S := fun w' => w'.cell? ⟨gb11, 0, none⟩ = some (.slice A0_0 l0_0.length c0_0) ∧ w'.cell? ⟨gb11, 1, none⟩ = some (.slice A0_1 l0_1.length c0_1) ∧ w'.cell? ⟨gb11, 2, none⟩ = some (.slice A0_2 l0_2.length c0_2)) (ds := []) #[false, false, false, false, false, false, false, false, false, false, false, false, false, false, false, false, false] (by kernel_rfl) rfl rfl ⟨(blk_cell BK11.out 0).trans rfl, (blk_cell BK11.out 1).trans rfl, (blk_cell BK11.out 2).trans rfl⟩ (fun hHeld => ?_); refine with_tabW roadbooklaw16_MemoOne.tab6 roadbooklaw16_MemoOne.bits6 (fun HT_ HW_ => ?_)
              generalize w43.drew = w44 at HO18 HO21 HO24 BK11 BK12 BK27 HB hHeld ⊢
              refine pure_ (i := 0) (N := some 43) (v := ?_) (a' := ?_) #[true, false, false, false, false, false, false, false, false, false, false, false, false, false, false, false, false] rfl rfl (any_of HT_.out (by kernel_rfl)) (fun _ _ _ h => h) (Or.inl ⟨by rfl, ?_⟩) ?_ ?_
              rotate_left
              · intro w'
                go_simp
                with_reducible rfl
              rotate_left
              · simp only [Act.put, List.setIfInBounds_toArray, List.set_cons_zero, List.set_cons_succ, i64_w, i32_w]
                rfl
              refine pure_ (i := 1) (N := some 44) (v := ?_) (a' := ?_) #[true, true, false, false, false, false, false, false, false, false, false, false, false, false, false, false, false] rfl rfl (any_of HT_.out (by kernel_rfl)) (fun _ _ _ h => h) (Or.inl ⟨by rfl, ?_⟩) ?_ ?_
              rotate_left
              · intro w'
                go_simp
                with_reducible rfl
              rotate_left
              · simp only [Act.put, List.setIfInBounds_toArray, List.set_cons_zero, List.set_cons_succ, i64_w, i32_w]
                rfl
              refine pure_ (i := 2) (N := some 45) (v := ?_) (a' := ?_) #[true, true, true, false, false, false, false, false, false, false, false, false, false, false, false, false, false] rfl rfl (any_of HT_.out (by kernel_rfl)) (fun _ _ _ h => h) (Or.inl ⟨by rfl, ?_⟩) ?_ ?_
              rotate_left
              · intro w'
                go_simp
                with_reducible rfl
              rotate_left
              · simp only [Act.put, List.setIfInBounds_toArray, List.set_cons_zero, List.set_cons_succ, i64_w, i32_w]
                rfl
              refine pure_ (i := 4) (N := some 47) (v := ?_) (a' := ?_) #[true, true, true, false, true, false, false, false, false, false, false, false, false, false, false, false, false] rfl rfl (any_of HT_.out (by kernel_rfl)) (fun _ _ _ h => h) (Or.inl ⟨by rfl, ?_⟩) ?_ ?_
              rotate_left
              · intro w'
                go_simp
                with_reducible rfl
              rotate_left
              · simp only [Act.put, List.setIfInBounds_toArray, List.set_cons_zero, List.set_cons_succ, i64_w, i32_w]
                rfl
              refine pure_ (i := 7) (N := some 50) (v := ?_) (a' := ?_) #[true, true, true, false, true, false, false, true, false, false, false, false, false, false, false, false, false] rfl rfl (any_of HT_.out (by kernel_rfl)) (fun _ _ _ h => h) (Or.inl ⟨by rfl, ?_⟩) ?_ ?_
              rotate_left
              · intro w'
                go_simp
                with_reducible rfl
              rotate_left
              · simp only [Act.put, List.setIfInBounds_toArray, List.set_cons_zero, List.set_cons_succ, i64_w, i32_w]
                rfl
              refine take_ (i := 3) (N := some 46) (v := ?_) (a' := ?_) #[true, true, true, true, true, false, false, true, false, false, false, false, false, false, false, false, false] rfl rfl (take_ofW HT_.out HW_.out (by kernel_rfl)) (fun _ _ _ h => h) (Or.inl ⟨by rfl, ?_⟩) hHeld ?_ ?_
              rotate_left
              · rintro w' ⟨s0, s1, s2⟩
                go_simp
                with_reducible rfl
              rotate_left
              · simp only [Act.put, List.setIfInBounds_toArray, List.set_cons_zero, List.set_cons_succ, i64_w, i32_w]
                rfl
              refine take_ (i := 6) (N := some 49) (v := ?_) (a' := ?_) #[true, true, true, true, true, false, true, true, false, false, false, false, false, false, false, false, false] rfl rfl (take_ofW HT_.out HW_.out (by kernel_rfl)) (fun _ _ _ h => h) (Or.inl ⟨by rfl, ?_⟩) hHeld ?_ ?_
              rotate_left
              · rintro w' ⟨s0, s1, s2⟩
                go_simp
                with_reducible rfl
              rotate_left
              · simp only [Act.put, List.setIfInBounds_toArray, List.set_cons_zero, List.set_cons_succ, i64_w, i32_w]
                rfl
              refine one_ (i := 5) (N := some 48) #[true, true, true, true, true, true, true, true, false, false, false, false, false, false, false, false, false] rfl rfl (one_of HT_.out (by kernel_rfl)) (by decide) (fun K hK => ?_)
              refine goes_ Try.func42 (by kernel_rfl) rfl #[.agg #[.slice A0_0 l0_0.length c0_0, .slice A0_1 l0_1.length c0_1, .slice A0_2 l0_2.length c0_2], .int .i64 a2] (by rfl) rfl rfl (by (try simp only [List.map_toArray, List.map_cons, List.map_nil]); first | done | rfl | (simp only [List.length_drop, List.length_take]; rfl)) ?_
              with_reducible refine (memo_Find.calls kj6 _ _ l0_0 _ _ l0_1 _ _ l0_2 a2 t28 _ ?side1 ?side2 ?side3 ?side4 ?side5 ?side6 A34.out).mono ?_
              (case side1 => exact cM (Kd.C_below HR0_0.out HB.out))
              (case side2 => exact HC0_0.out)
              (case side3 => exact cM (Kd.C_below HR0_1.out HB.out))
              (case side4 => exact HC0_1.out)
              (case side5 => exact cM (Kd.C_below HR0_2.out HB.out))
              (case side6 => exact HC0_2.out)
              rintro e w45 ⟨rfl, hb⟩
              refine ⟨_, rfl, ?_⟩
              have n0_ := Aside0.mk (Kd.R_below (rM HO18.out) hb)
              have n1_ := Aside0.mk (Kd.R_below (rM HO21.out) hb)
              have n2_ := Aside0.mk (Kd.R_below (rM HO24.out) hb)
              have n3_ := Aside0.mk (blk_below (kM BK11.out) hb)
              have n4_ := Aside0.mk (blk_below (kM BK12.out) hb)
              have n5_ := Aside0.mk (blk_below (kM BK27.out) hb)
              have n6_ := Aside0.mk (below_step (by first | exact wM HB.out | exact wF HB.out GE11.out | exact wF1 HB.out GE11.out | exact wF HB.out GE12.out | exact wF1 HB.out GE12.out | exact wF HB.out GE27.out | exact wF1 HB.out GE27.out) hb)
              clear HO18
              clear HO21
              clear HO24
              clear BK11
              clear BK12
              clear BK27
              clear HB
              have HO18 := n0_
              have HO21 := n1_
              have HO24 := n2_
              have BK11 := n3_
              have BK12 := n4_
              have BK27 := n5_
              have HB := n6_
              clear n0_ n1_ n2_ n3_ n4_ n5_ n6_
              (try clear hb)
              (try clear hb2)
              (try clear hk)
              (try clear hi)
              refine hK.out _ _ ⟨(blk_cell BK11.out 0).trans rfl, (blk_cell BK11.out 1).trans rfl, (blk_cell BK11.out 2).trans rfl⟩ (fun hHeld => ?_)
              clear hK K
              refine norm_ (a' := ?_) ?_ ?_
              rotate_left
              · show Act.put _ (some 48) _ = _
                simp only [Act.put, List.setIfInBounds_toArray, List.set_cons_zero, List.set_cons_succ, i64_w, i32_w]
                rfl
              refine one_ (i := 8) (N := some 51) #[true, true, true, true, true, true, true, true, true, false, false, false, false, false, false, false, false] rfl rfl (one_of HT_.out (by kernel_rfl)) (by decide) (fun K hK => ?_)
              refine goes_ Try.func42 (by kernel_rfl) rfl #[.agg #[.slice A0_0 l0_0.length c0_0, .slice A0_1 l0_1.length c0_1, .slice A0_2 l0_2.length c0_2], .int .i64 a3] (by rfl) rfl rfl (by (try simp only [List.map_toArray, List.map_cons, List.map_nil]); first | done | rfl | (simp only [List.length_drop, List.length_take]; rfl)) ?_
              with_reducible refine (memo_Find.calls kj6 _ _ l0_0 _ _ l0_1 _ _ l0_2 a3 t29 _ ?side1 ?side2 ?side3 ?side4 ?side5 ?side6 A35.out).mono ?_
              (case side1 => exact cM (Kd.C_below HR0_0.out HB.out))
              (case side2 => exact HC0_0.out)
              (case side3 => exact cM (Kd.C_below HR0_1.out HB.out))
              (case side4 => exact HC0_1.out)
              (case side5 => exact cM (Kd.C_below HR0_2.out HB.out))
              (case side6 => exact HC0_2.out)
              rintro e w46 ⟨rfl, hb⟩
              refine ⟨_, rfl, ?_⟩
              have n0_ := Aside0.mk (Kd.R_below (rM HO18.out) hb)
              have n1_ := Aside0.mk (Kd.R_below (rM HO21.out) hb)
              have n2_ := Aside0.mk (Kd.R_below (rM HO24.out) hb)
              have n3_ := Aside0.mk (blk_below (kM BK11.out) hb)
              have n4_ := Aside0.mk (blk_below (kM BK12.out) hb)
              have n5_ := Aside0.mk (blk_below (kM BK27.out) hb)
              have n6_ := Aside0.mk (below_step (by first | exact wM HB.out | exact wF HB.out GE11.out | exact wF1 HB.out GE11.out | exact wF HB.out GE12.out | exact wF1 HB.out GE12.out | exact wF HB.out GE27.out | exact wF1 HB.out GE27.out) hb)
              clear HO18
              clear HO21
              clear HO24
              clear BK11
              clear BK12
              clear BK27
              clear HB
              have HO18 := n0_
              have HO21 := n1_
              have HO24 := n2_
              have BK11 := n3_
              have BK12 := n4_
              have BK27 := n5_
              have HB := n6_
              clear n0_ n1_ n2_ n3_ n4_ n5_ n6_
              (try clear hb)
              (try clear hb2)
              (try clear hk)
              (try clear hi)
              refine hK.out _ _ ⟨(blk_cell BK11.out 0).trans rfl, (blk_cell BK11.out 1).trans rfl, (blk_cell BK11.out 2).trans rfl⟩ (fun hHeld => ?_)
              clear hK K
              refine norm_ (a' := ?_) ?_ ?_
              rotate_left
              · show Act.put _ (some 51) _ = _
                simp only [Act.put, List.setIfInBounds_toArray, List.set_cons_zero, List.set_cons_succ, i64_w, i32_w]
                rfl
              refine pure_ (i := 9) (N := some 52) (v := ?_) (a' := ?_) #[true, true, true, true, true, true, true, true, true, true, false, false, false, false, false, false, false] rfl rfl (any_of HT_.out (by kernel_rfl)) (fun _ _ _ h => h) (Or.inl ⟨by rfl, ?_⟩) ?_ ?_
              rotate_left
              · intro w'
                go_simp
                with_reducible rfl
              rotate_left
              · simp only [Act.put, List.setIfInBounds_toArray, List.set_cons_zero, List.set_cons_succ, i64_w, i32_w]
                rfl
              refine pure_ (i := 10) (N := some 53) (v := ?_) (a' := ?_) #[true, true, true, true, true, true, true, true, true, true, true, false, false, false, false, false, false] rfl rfl (any_of HT_.out (by kernel_rfl)) (fun _ _ _ h => h) (Or.inl ⟨by rfl, ?_⟩) ?_ ?_
              rotate_left
              · intro w'
                go_simp
                with_reducible rfl
              rotate_left
              · simp only [Act.put, List.setIfInBounds_toArray, List.set_cons_zero, List.set_cons_succ, i64_w, i32_w]
                rfl
              refine pure_ (i := 11) (N := some 54) (v := ?_) (a' := ?_) #[true, true, true, true, true, true, true, true, true, true, true, true, false, false, false, false, false] rfl rfl (any_of HT_.out (by kernel_rfl)) (fun _ _ _ h => h) (Or.inl ⟨by rfl, ?_⟩) ?_ ?_
              rotate_left
              · intro w'
                go_simp
                with_reducible rfl
              rotate_left
              · simp only [Act.put, List.setIfInBounds_toArray, List.set_cons_zero, List.set_cons_succ, i64_w, i32_w]
                rfl
              refine pure_ (i := 12) (N := some 55) (v := undef) (a' := ?_) #[true, true, true, true, true, true, true, true, true, true, true, true, true, false, false, false, false] rfl rfl (any_of HT_.out (by kernel_rfl)) (fun _ _ _ h => h) (Or.inr ⟨by rfl, rfl⟩) ?_ ?_
              rotate_left
              · simp only [Act.put, List.setIfInBounds_toArray, List.set_cons_zero, List.set_cons_succ, i64_w, i32_w]
                rfl
              refine pure_ (i := 13) (N := some 56) (v := undef) (a' := ?_) #[true, true, true, true, true, true, true, true, true, true, true, true, true, true, false, false, false] rfl rfl (any_of HT_.out (by kernel_rfl)) (fun _ _ _ h => h) (Or.inr ⟨by rfl, rfl⟩) ?_ ?_
              rotate_left
              · simp only [Act.put, List.setIfInBounds_toArray, List.set_cons_zero, List.set_cons_succ, i64_w, i32_w]
                rfl
              refine pure_ (i := 14) (N := some 57) (v := undef) (a' := ?_) #[true, true, true, true, true, true, true, true, true, true, true, true, true, true, true, false, false] rfl rfl (any_of HT_.out (by kernel_rfl)) (fun _ _ _ h => h) (Or.inr ⟨by rfl, rfl⟩) ?_ ?_
              rotate_left
              · simp only [Act.put, List.setIfInBounds_toArray, List.set_cons_zero, List.set_cons_succ, i64_w, i32_w]
                rfl
              refine pure_ (i := 15) (N := some 58) (v := undef) (a' := ?_) #[true, true, true, true, true, true, true, true, true, true, true, true, true, true, true, true, false] rfl rfl (any_of HT_.out (by kernel_rfl)) (fun _ _ _ h => h) (Or.inr ⟨by rfl, rfl⟩) ?_ ?_
              rotate_left
              · simp only [Act.put, List.setIfInBounds_toArray, List.set_cons_zero, List.set_cons_succ, i64_w, i32_w]
                rfl
              refine pure_ (i := 16) (N := some 59) (v := ?_) (a' := ?_) #[true, true, true, true, true, true, true, true, true, true, true, true, true, true, true, true, true] rfl rfl (any_of HT_.out (by kernel_rfl)) (fun _ _ _ h => h) (Or.inl ⟨by rfl, ?_⟩) ?_ ?_
              rotate_left
              · intro w'
                go_simp
                with_reducible rfl
              rotate_left
              · simp only [Act.put, List.setIfInBounds_toArray, List.set_cons_zero, List.set_cons_succ, i64_w, i32_w]
                rfl
              refine done_ (done_of HT_.out (by kernel_rfl)) ?_
              try go_wp2
              go_meet
              case rel => exact ⟨_, (false), (by first | rfl | (simp; done) | (simp [*]; done)), H', ⟨by have := HJ6.out; first | omega | exact Nat.le_refl _⟩, ⟨by (with_reducible repeat (first | apply Kd.R_alloc | apply Kd.R_drewN | apply Kd.R_drew)); exact HO18.out⟩, ⟨by (with_reducible repeat (first | apply Kd.R_alloc | apply Kd.R_drewN | apply Kd.R_drew)); exact HO21.out⟩, ⟨by (with_reducible repeat (first | apply Kd.R_alloc | apply Kd.R_drewN | apply Kd.R_drew)); exact HO24.out⟩, ⟨by (with_reducible repeat (first | refine blk_drewN ?_ _ | refine blk_drew ?_ | refine blk_alloc ?_ _)); exact BK11.out⟩, ⟨by (with_reducible repeat (first | refine blk_drewN ?_ _ | refine blk_drew ?_ | refine blk_alloc ?_ _)); exact BK12.out⟩, ⟨by (with_reducible repeat (first | refine blk_drewN ?_ _ | refine blk_drew ?_ | refine blk_alloc ?_ _)); exact BK27.out⟩, ⟨by repeat (first | (with_reducible first | exact HB.out | apply below_alloc | apply pw_below_drewN | apply below_drew1 | refine below_set ?_ GE11.out | refine below_set ?_ GE12.out | refine below_set ?_ GE27.out) | exact HB.out)⟩⟩
          · rw [if_neg c33] at H
            have c33b0 : (t26 == 0) = false := beq_eq_false_iff_ne.mpr c33
            have c33b1 : (t26 != 0) = true := bne_iff_ne.mpr c33
            (first | rw [c33b0] | (simp only [i64_w, i32_w]; rw [c33b0]) | skip)
            have H' := Aside0.mk H
            clear H
            try go_wp2
            have n0_ : Aside0 (Kd.R k48 48 (((w26.setCell ⟨gb27, 0, none⟩ (.slice Ao27 t16.length co27)).setCell ⟨gb27, 1, none⟩ (.slice Ao31 t19.length co31)).setCell ⟨gb27, 2, none⟩ (.slice Ao32 t22.length co32)) w.heap.size (fun k_ => k_ ≠ gb12) (.slice Ao27 t16.length co27) t16) := ⟨by (with_reducible repeat (first | apply Kd.R_alloc | apply Kd.R_drewN | apply Kd.R_drew)); exact Kd.R_mono (Kd.R_far (p := ⟨gb27, 2, none⟩) (Kd.R_far (p := ⟨gb27, 1, none⟩) (Kd.R_far (p := ⟨gb27, 0, none⟩) (Kd.R_types HO18.out BK27.out (by decide)) (fun _ hk => hk.2) (.slice Ao27 t16.length co27)) (fun _ hk => hk.2) (.slice Ao31 t19.length co31)) (fun _ hk => hk.2) (.slice Ao32 t22.length co32)) (fun _ hk => hk.1.2)⟩
            have n1_ : Aside0 (Kd.R (Kd.int .i64) 3 (((w26.setCell ⟨gb27, 0, none⟩ (.slice Ao27 t16.length co27)).setCell ⟨gb27, 1, none⟩ (.slice Ao31 t19.length co31)).setCell ⟨gb27, 2, none⟩ (.slice Ao32 t22.length co32)) w.heap.size (fun k_ => some k_ ≠ (.slice Ao32 t22.length co32 : Value).ownBlock) (.slice Ao31 t19.length co31) t19) := ⟨by (with_reducible repeat (first | apply Kd.R_alloc | apply Kd.R_drewN | apply Kd.R_drew)); exact Kd.R_mono (Kd.R_far (p := ⟨gb27, 2, none⟩) (Kd.R_far (p := ⟨gb27, 1, none⟩) (Kd.R_far (p := ⟨gb27, 0, none⟩) (Kd.R_types HO21.out BK27.out (by decide)) (fun _ hk => hk.2) (.slice Ao27 t16.length co27)) (fun _ hk => hk.2) (.slice Ao31 t19.length co31)) (fun _ hk => hk.2) (.slice Ao32 t22.length co32)) (fun _ hk => hk.1)⟩
            have n2_ : Aside0 (Kd.R (Kd.int .i64) 3 (((w26.setCell ⟨gb27, 0, none⟩ (.slice Ao27 t16.length co27)).setCell ⟨gb27, 1, none⟩ (.slice Ao31 t19.length co31)).setCell ⟨gb27, 2, none⟩ (.slice Ao32 t22.length co32)) w.heap.size (fun k_ => some k_ ≠ (.slice Ao31 t19.length co31 : Value).ownBlock) (.slice Ao32 t22.length co32) t22) := ⟨by (with_reducible repeat (first | apply Kd.R_alloc | apply Kd.R_drewN | apply Kd.R_drew)); exact Kd.R_mono (Kd.R_far (p := ⟨gb27, 2, none⟩) (Kd.R_far (p := ⟨gb27, 1, none⟩) (Kd.R_far (p := ⟨gb27, 0, none⟩) (Kd.R_types HO24.out BK27.out (by decide)) (fun _ hk => hk.2) (.slice Ao27 t16.length co27)) (fun _ hk => hk.2) (.slice Ao31 t19.length co31)) (fun _ hk => hk.2) (.slice Ao32 t22.length co32)) (fun _ hk => hk.1)⟩
            have n3_ : Aside0 ((((w26.setCell ⟨gb27, 0, none⟩ (.slice Ao27 t16.length co27)).setCell ⟨gb27, 1, none⟩ (.slice Ao31 t19.length co31)).setCell ⟨gb27, 2, none⟩ (.slice Ao32 t22.length co32)).heap[gb11]? = some (.cells #[.slice A0_0 l0_0.length c0_0, .slice A0_1 l0_1.length c0_1, .slice A0_2 l0_2.length c0_2] 38 (0, 0))) := ⟨by (with_reducible repeat (first | refine blk_drewN ?_ _ | refine blk_drew ?_ | refine blk_alloc ?_ _)); refine blk_far ?_ NB11_27.out _; (with_reducible repeat (first | refine blk_drewN ?_ _ | refine blk_drew ?_ | refine blk_alloc ?_ _)); refine blk_far ?_ NB11_27.out _; (with_reducible repeat (first | refine blk_drewN ?_ _ | refine blk_drew ?_ | refine blk_alloc ?_ _)); refine blk_far ?_ NB11_27.out _; (with_reducible repeat (first | refine blk_drewN ?_ _ | refine blk_drew ?_ | refine blk_alloc ?_ _)); exact BK11.out⟩
            have n4_ : Aside0 ((((w26.setCell ⟨gb27, 0, none⟩ (.slice Ao27 t16.length co27)).setCell ⟨gb27, 1, none⟩ (.slice Ao31 t19.length co31)).setCell ⟨gb27, 2, none⟩ (.slice Ao32 t22.length co32)).heap[gb12]? = some (.cells #[.bool a1_0, .int .i64 a1_1, .int .i64 a1_2, .int .i64 a1_3] 48 (0, 0))) := ⟨by (with_reducible repeat (first | refine blk_drewN ?_ _ | refine blk_drew ?_ | refine blk_alloc ?_ _)); refine blk_far ?_ NB12_27.out _; (with_reducible repeat (first | refine blk_drewN ?_ _ | refine blk_drew ?_ | refine blk_alloc ?_ _)); refine blk_far ?_ NB12_27.out _; (with_reducible repeat (first | refine blk_drewN ?_ _ | refine blk_drew ?_ | refine blk_alloc ?_ _)); refine blk_far ?_ NB12_27.out _; (with_reducible repeat (first | refine blk_drewN ?_ _ | refine blk_drew ?_ | refine blk_alloc ?_ _)); exact BK12.out⟩
            have n5_ : Aside0 ((((w26.setCell ⟨gb27, 0, none⟩ (.slice Ao27 t16.length co27)).setCell ⟨gb27, 1, none⟩ (.slice Ao31 t19.length co31)).setCell ⟨gb27, 2, none⟩ (.slice Ao32 t22.length co32)).heap[gb27]? = some (.cells #[.slice Ao27 t16.length co27, .slice Ao31 t19.length co31, .slice Ao32 t22.length co32] 38 (0, 0))) := ⟨by (with_reducible repeat (first | refine blk_drewN ?_ _ | refine blk_drew ?_ | refine blk_alloc ?_ _)); refine blk_put (cs := #[.slice Ao27 t16.length co27, .slice Ao31 t19.length co31, .slice none 0 0]) ?_ 2 _ rfl; (with_reducible repeat (first | refine blk_drewN ?_ _ | refine blk_drew ?_ | refine blk_alloc ?_ _)); refine blk_put (cs := #[.slice Ao27 t16.length co27, .slice none 0 0, .slice none 0 0]) ?_ 1 _ rfl; (with_reducible repeat (first | refine blk_drewN ?_ _ | refine blk_drew ?_ | refine blk_alloc ?_ _)); refine blk_put (cs := #[.slice none 0 0, .slice none 0 0, .slice none 0 0]) ?_ 0 _ rfl; (with_reducible repeat (first | refine blk_drewN ?_ _ | refine blk_drew ?_ | refine blk_alloc ?_ _)); exact BK27.out⟩
            have n6_ : Aside0 (Below w.heap.size w (((w26.setCell ⟨gb27, 0, none⟩ (.slice Ao27 t16.length co27)).setCell ⟨gb27, 1, none⟩ (.slice Ao31 t19.length co31)).setCell ⟨gb27, 2, none⟩ (.slice Ao32 t22.length co32))) := ⟨by repeat (first | (with_reducible first | exact HB.out | apply below_alloc | apply pw_below_drewN | apply below_drew1 | refine below_set ?_ GE11.out | refine below_set ?_ GE12.out | refine below_set ?_ GE27.out) | exact HB.out)⟩
            (try clear HO18)
            (try clear HO21)
            (try clear HO24)
            (try clear BK11)
            (try clear BK12)
            (try clear BK27)
            (try clear HB)
            generalize (((w26.setCell ⟨gb27, 0, none⟩ (.slice Ao27 t16.length co27)).setCell ⟨gb27, 1, none⟩ (.slice Ao31 t19.length co31)).setCell ⟨gb27, 2, none⟩ (.slice Ao32 t22.length co32)) = w47 at n0_ n1_ n2_ n3_ n4_ n5_ n6_ ⊢
            have HO18 := n0_
            have HO21 := n1_
            have HO24 := n2_
            have BK11 := n3_
            have BK12 := n4_
            have BK27 := n5_
            have HB := n6_
            clear n0_ n1_ n2_ n3_ n4_ n5_ n6_
            have n0_ := Aside0.mk (Kd.R_drew HO18.out)
            have n1_ := Aside0.mk (Kd.R_drew HO21.out)
            have n2_ := Aside0.mk (Kd.R_drew HO24.out)
            have n3_ := Aside0.mk (blk_drew BK11.out)
            have n4_ := Aside0.mk (blk_drew BK12.out)
            have n5_ := Aside0.mk (blk_drew BK27.out)
            have n6_ := Aside0.mk (below_drew1 HB.out)
            clear HO18
            clear HO21
            clear HO24
            clear BK11
            clear BK12
            clear BK27
            clear HB
            have HO18 := n0_
            have HO21 := n1_
            have HO24 := n2_
            have BK11 := n3_
            have BK12 := n4_
            have BK27 := n5_
            have HB := n6_
            clear n0_ n1_ n2_ n3_ n4_ n5_ n6_
            refine start_ (n := 17) (S := fun w' => True) (ds := []) #[false, false, false, false, false, false, false, false, false, false, false, false, false, false, false, false, false] (by kernel_rfl) rfl rfl trivial (fun hHeld => ?_); refine with_tabW roadbooklaw16_MemoOne.tab6 roadbooklaw16_MemoOne.bits6 (fun HT_ HW_ => ?_)
            generalize w47.drew = w48 at HO18 HO21 HO24 BK11 BK12 BK27 HB hHeld ⊢
            refine pure_ (i := 0) (N := some 43) (v := ?_) (a' := ?_) #[true, false, false, false, false, false, false, false, false, false, false, false, false, false, false, false, false] rfl rfl (any_of HT_.out (by kernel_rfl)) (fun _ _ _ h => h) (Or.inl ⟨by rfl, ?_⟩) ?_ ?_
            rotate_left
            · intro w'
              go_simp
              with_reducible rfl
            rotate_left
            · simp only [Act.put, List.setIfInBounds_toArray, List.set_cons_zero, List.set_cons_succ, i64_w, i32_w]
              rfl
            refine pure_ (i := 1) (N := some 44) (v := ?_) (a' := ?_) #[true, true, false, false, false, false, false, false, false, false, false, false, false, false, false, false, false] rfl rfl (any_of HT_.out (by kernel_rfl)) (fun _ _ _ h => h) (Or.inl ⟨by rfl, ?_⟩) ?_ ?_
            rotate_left
            · intro w'
              go_simp
              with_reducible rfl
            rotate_left
            · simp only [Act.put, List.setIfInBounds_toArray, List.set_cons_zero, List.set_cons_succ, i64_w, i32_w]
              rfl
            refine pure_ (i := 2) (N := some 45) (v := ?_) (a' := ?_) #[true, true, true, false, false, false, false, false, false, false, false, false, false, false, false, false, false] rfl rfl (any_of HT_.out (by kernel_rfl)) (fun _ _ _ h => h) (Or.inl ⟨by rfl, ?_⟩) ?_ ?_
            rotate_left
            · intro w'
              go_simp
              with_reducible rfl
            rotate_left
            · simp only [Act.put, List.setIfInBounds_toArray, List.set_cons_zero, List.set_cons_succ, i64_w, i32_w]
              rfl
            refine pure_ (i := 3) (N := some 46) (v := undef) (a' := ?_) #[true, true, true, true, false, false, false, false, false, false, false, false, false, false, false, false, false] rfl rfl (any_of HT_.out (by kernel_rfl)) (fun _ _ _ h => h) (Or.inr ⟨by rfl, rfl⟩) ?_ ?_
            rotate_left
            · simp only [Act.put, List.setIfInBounds_toArray, List.set_cons_zero, List.set_cons_succ, i64_w, i32_w]
              rfl
            refine pure_ (i := 4) (N := some 47) (v := undef) (a' := ?_) #[true, true, true, true, true, false, false, false, false, false, false, false, false, false, false, false, false] rfl rfl (any_of HT_.out (by kernel_rfl)) (fun _ _ _ h => h) (Or.inr ⟨by rfl, rfl⟩) ?_ ?_
            rotate_left
            · simp only [Act.put, List.setIfInBounds_toArray, List.set_cons_zero, List.set_cons_succ, i64_w, i32_w]
              rfl
            refine pure_ (i := 5) (N := some 48) (v := undef) (a' := ?_) #[true, true, true, true, true, true, false, false, false, false, false, false, false, false, false, false, false] rfl rfl (any_of HT_.out (by kernel_rfl)) (fun _ _ _ h => h) (Or.inr ⟨by rfl, rfl⟩) ?_ ?_
            rotate_left
            · simp only [Act.put, List.setIfInBounds_toArray, List.set_cons_zero, List.set_cons_succ, i64_w, i32_w]
              rfl
            refine pure_ (i := 6) (N := some 49) (v := undef) (a' := ?_) #[true, true, true, true, true, true, true, false, false, false, false, false, false, false, false, false, false] rfl rfl (any_of HT_.out (by kernel_rfl)) (fun _ _ _ h => h) (Or.inr ⟨by rfl, rfl⟩) ?_ ?_
            rotate_left
            · simp only [Act.put, List.setIfInBounds_toArray, List.set_cons_zero, List.set_cons_succ, i64_w, i32_w]
              rfl
            refine pure_ (i := 7) (N := some 50) (v := undef) (a' := ?_) #[true, true, true, true, true, true, true, true, false, false, false, false, false, false, false, false, false] rfl rfl (any_of HT_.out (by kernel_rfl)) (fun _ _ _ h => h) (Or.inr ⟨by rfl, rfl⟩) ?_ ?_
            rotate_left
            · simp only [Act.put, List.setIfInBounds_toArray, List.set_cons_zero, List.set_cons_succ, i64_w, i32_w]
              rfl
            refine pure_ (i := 8) (N := some 51) (v := undef) (a' := ?_) #[true, true, true, true, true, true, true, true, true, false, false, false, false, false, false, false, false] rfl rfl (any_of HT_.out (by kernel_rfl)) (fun _ _ _ h => h) (Or.inr ⟨by rfl, rfl⟩) ?_ ?_
            rotate_left
            · simp only [Act.put, List.setIfInBounds_toArray, List.set_cons_zero, List.set_cons_succ, i64_w, i32_w]
              rfl
            refine pure_ (i := 9) (N := some 52) (v := undef) (a' := ?_) #[true, true, true, true, true, true, true, true, true, true, false, false, false, false, false, false, false] rfl rfl (any_of HT_.out (by kernel_rfl)) (fun _ _ _ h => h) (Or.inr ⟨by rfl, rfl⟩) ?_ ?_
            rotate_left
            · simp only [Act.put, List.setIfInBounds_toArray, List.set_cons_zero, List.set_cons_succ, i64_w, i32_w]
              rfl
            refine pure_ (i := 10) (N := some 53) (v := ?_) (a' := ?_) #[true, true, true, true, true, true, true, true, true, true, true, false, false, false, false, false, false] rfl rfl (any_of HT_.out (by kernel_rfl)) (fun _ _ _ h => h) (Or.inl ⟨by rfl, ?_⟩) ?_ ?_
            rotate_left
            · intro w'
              go_simp
              with_reducible rfl
            rotate_left
            · simp only [Act.put, List.setIfInBounds_toArray, List.set_cons_zero, List.set_cons_succ, i64_w, i32_w]
              rfl
            refine pure_ (i := 11) (N := some 54) (v := ?_) (a' := ?_) #[true, true, true, true, true, true, true, true, true, true, true, true, false, false, false, false, false] rfl rfl (any_of HT_.out (by kernel_rfl)) (fun _ _ _ h => h) (Or.inl ⟨by rfl, ?_⟩) ?_ ?_
            rotate_left
            · intro w'
              go_simp
              with_reducible rfl
            rotate_left
            · simp only [Act.put, List.setIfInBounds_toArray, List.set_cons_zero, List.set_cons_succ, i64_w, i32_w]
              rfl
            refine pure_ (i := 12) (N := some 55) (v := undef) (a' := ?_) #[true, true, true, true, true, true, true, true, true, true, true, true, true, false, false, false, false] rfl rfl (any_of HT_.out (by kernel_rfl)) (fun _ _ _ h => h) (Or.inr ⟨by rfl, rfl⟩) ?_ ?_
            rotate_left
            · simp only [Act.put, List.setIfInBounds_toArray, List.set_cons_zero, List.set_cons_succ, i64_w, i32_w]
              rfl
            refine pure_ (i := 13) (N := some 56) (v := undef) (a' := ?_) #[true, true, true, true, true, true, true, true, true, true, true, true, true, true, false, false, false] rfl rfl (any_of HT_.out (by kernel_rfl)) (fun _ _ _ h => h) (Or.inr ⟨by rfl, rfl⟩) ?_ ?_
            rotate_left
            · simp only [Act.put, List.setIfInBounds_toArray, List.set_cons_zero, List.set_cons_succ, i64_w, i32_w]
              rfl
            refine pure_ (i := 14) (N := some 57) (v := undef) (a' := ?_) #[true, true, true, true, true, true, true, true, true, true, true, true, true, true, true, false, false] rfl rfl (any_of HT_.out (by kernel_rfl)) (fun _ _ _ h => h) (Or.inr ⟨by rfl, rfl⟩) ?_ ?_
            rotate_left
            · simp only [Act.put, List.setIfInBounds_toArray, List.set_cons_zero, List.set_cons_succ, i64_w, i32_w]
              rfl
            refine pure_ (i := 15) (N := some 58) (v := undef) (a' := ?_) #[true, true, true, true, true, true, true, true, true, true, true, true, true, true, true, true, false] rfl rfl (any_of HT_.out (by kernel_rfl)) (fun _ _ _ h => h) (Or.inr ⟨by rfl, rfl⟩) ?_ ?_
            rotate_left
            · simp only [Act.put, List.setIfInBounds_toArray, List.set_cons_zero, List.set_cons_succ, i64_w, i32_w]
              rfl
            refine pure_ (i := 16) (N := some 59) (v := ?_) (a' := ?_) #[true, true, true, true, true, true, true, true, true, true, true, true, true, true, true, true, true] rfl rfl (any_of HT_.out (by kernel_rfl)) (fun _ _ _ h => h) (Or.inl ⟨by rfl, ?_⟩) ?_ ?_
            rotate_left
            · intro w'
              go_simp
              with_reducible rfl
            rotate_left
            · simp only [Act.put, List.setIfInBounds_toArray, List.set_cons_zero, List.set_cons_succ, i64_w, i32_w]
              rfl
            refine done_ (done_of HT_.out (by kernel_rfl)) ?_
            try go_wp2
            go_meet
            case rel => exact ⟨_, (false), (by first | rfl | (simp; done) | (simp [*]; done)), H', ⟨by have := HJ6.out; first | omega | exact Nat.le_refl _⟩, ⟨by (with_reducible repeat (first | apply Kd.R_alloc | apply Kd.R_drewN | apply Kd.R_drew)); exact HO18.out⟩, ⟨by (with_reducible repeat (first | apply Kd.R_alloc | apply Kd.R_drewN | apply Kd.R_drew)); exact HO21.out⟩, ⟨by (with_reducible repeat (first | apply Kd.R_alloc | apply Kd.R_drewN | apply Kd.R_drew)); exact HO24.out⟩, ⟨by (with_reducible repeat (first | refine blk_drewN ?_ _ | refine blk_drew ?_ | refine blk_alloc ?_ _)); exact BK11.out⟩, ⟨by (with_reducible repeat (first | refine blk_drewN ?_ _ | refine blk_drew ?_ | refine blk_alloc ?_ _)); exact BK12.out⟩, ⟨by (with_reducible repeat (first | refine blk_drewN ?_ _ | refine blk_drew ?_ | refine blk_alloc ?_ _)); exact BK27.out⟩, ⟨by repeat (first | (with_reducible first | exact HB.out | apply below_alloc | apply pw_below_drewN | apply below_drew1 | refine below_set ?_ GE11.out | refine below_set ?_ GE12.out | refine below_set ?_ GE27.out) | exact HB.out)⟩⟩
        case rest =>
          clear HC22
          try clear p2
          try clear c3
          try clear c4
          try clear c33
          try clear c33b0
          try clear c33b1
          try clear c36
          try clear c36b0
          try clear c36b1
          try clear c42
          try clear c46
          obtain ⟨kq, x59_21, rfl, HA, HJ21, HO_28000, HO_28001, HO_28002, BK11, BK12, BK27, HB⟩ := hcut
          cases kq with
          | zero => exact absurd HA.out (by simp [roadbooklaw16_MemoOne.j1])
          | succ kj21 =>
            have H := HA.out
            clear HA
            simp only [roadbooklaw16_MemoOne.j1] at H
            by_cases c49 : x59_21 = true
            · subst c49
              have H1 : (some false) = some r := by rw [if_pos rfl] at H; exact H
              clear H
              have H := H1
              clear H1
              exact absurd (HRT.out.symm.trans (Option.some.inj H).symm) (by decide)
            · replace c49 := Bool.eq_false_iff.mpr c49
              subst c49
              have H1 : ((memo_Look.f l0_0 l0_1 l0_2 a1_0 a1_1 a1_2 a1_3).bind fun bt31 => ((memo_Put.f kj21 l0_0 l0_1 l0_2 a1_0 a1_1 a1_2 a1_3 (-1)).bind fun bt33 => (if bt33.2.2.2.2 = 0 then (roadbooklaw16_MemoOne.j2 kj21 bt33.2.2.2.1 bt33.2.2.2.2 bt31.2 l0_0 l0_1 l0_2 bt33.1 bt33.2.1 bt33.2.2.1) else (roadbooklaw16_MemoOne.j2 kj21 bt33.2.2.2.1 bt33.2.2.2.2 true l0_0 l0_1 l0_2 bt33.1 bt33.2.1 bt33.2.2.1)))) = some r := by rw [if_neg (show ¬ (false = true) by decide)] at H; exact H
              clear H
              have H := H1
              clear H1
              replace H := Option.bind_eq_some_iff.mp H
              obtain ⟨⟨t31, t32⟩, A500, H⟩ := H
              replace H : ((memo_Put.f kj21 l0_0 l0_1 l0_2 a1_0 a1_1 a1_2 a1_3 (-1)).bind fun bt33 => (if bt33.2.2.2.2 = 0 then (roadbooklaw16_MemoOne.j2 kj21 bt33.2.2.2.1 bt33.2.2.2.2 t32 l0_0 l0_1 l0_2 bt33.1 bt33.2.1 bt33.2.2.1) else (roadbooklaw16_MemoOne.j2 kj21 bt33.2.2.2.1 bt33.2.2.2.2 true l0_0 l0_1 l0_2 bt33.1 bt33.2.1 bt33.2.2.1))) = some r := H
              have A50 := Aside0.mk A500
              clear A500
              replace H := Option.bind_eq_some_iff.mp H
              obtain ⟨⟨t33, t36, t39, t42, t43⟩, A510, H⟩ := H
              replace H : (if t43 = 0 then (roadbooklaw16_MemoOne.j2 kj21 t42 t43 t32 l0_0 l0_1 l0_2 t33 t36 t39) else (roadbooklaw16_MemoOne.j2 kj21 t42 t43 true l0_0 l0_1 l0_2 t33 t36 t39)) = some r := H
              have A51 := Aside0.mk A510
              clear A510
              have HC52 := Aside0.mk H
              clear H
              have hnb53 := NB11_12.out
              have hnc53 := NB12_11.out
              have hnb54 := NB11_27.out
              have hnc54 := NB27_11.out
              have hcz55_0 : wc.cell? ⟨gb11, 0, none⟩ = some (.slice A0_0 l0_0.length c0_0) := (blk_cell BK11.out 0).trans rfl
              have hcz55_1 : wc.cell? ⟨gb11, 1, none⟩ = some (.slice A0_1 l0_1.length c0_1) := (blk_cell BK11.out 1).trans rfl
              have hcz55_2 : wc.cell? ⟨gb11, 2, none⟩ = some (.slice A0_2 l0_2.length c0_2) := (blk_cell BK11.out 2).trans rfl
              have hfz55_0 := blk_frozen BK11.out 0
              have hfz55_1 := blk_frozen BK11.out 1
              have hfz55_2 := blk_frozen BK11.out 2
              have hnb56 := NB12_27.out
              have hnc56 := NB27_12.out
              have hcz57_0 : wc.cell? ⟨gb12, 0, none⟩ = some (.bool a1_0) := (blk_cell BK12.out 0).trans rfl
              have hcz57_1 : wc.cell? ⟨gb12, 1, none⟩ = some (.int .i64 a1_1) := (blk_cell BK12.out 1).trans rfl
              have hcz57_2 : wc.cell? ⟨gb12, 2, none⟩ = some (.int .i64 a1_2) := (blk_cell BK12.out 2).trans rfl
              have hcz57_3 : wc.cell? ⟨gb12, 3, none⟩ = some (.int .i64 a1_3) := (blk_cell BK12.out 3).trans rfl
              have hfz57_0 := blk_frozen BK12.out 0
              have hfz57_1 := blk_frozen BK12.out 1
              have hfz57_2 := blk_frozen BK12.out 2
              have hfz57_3 := blk_frozen BK12.out 3
              go_upto_region 10 with (first | ((with_reducible refine gate_callee (f := 45) rfl ?_); refine goesL_ (some 63) rfl rfl Try.func45 (by kernel_rfl) rfl #[.agg #[.slice A0_0 l0_0.length c0_0, .slice A0_1 l0_1.length c0_1, .slice A0_2 l0_2.length c0_2], .agg #[.bool a1_0, .int .i64 a1_1, .int .i64 a1_2, .int .i64 a1_3]] rfl (by (try simp only [List.map_toArray, List.map_cons, List.map_nil]); first | done | rfl | (simp only [List.length_drop, List.length_take]; rfl)) ?_; (with_reducible refine (memo_Look.calls _ _ l0_0 _ _ l0_1 _ _ l0_2 a1_0 a1_1 a1_2 a1_3 t31 t32 _ ?side1 ?side2 ?side3 ?side4 ?side5 ?side6 A50.out).mono ?_); (case side1 => exact cM (Kd.C_below HR0_0.out HB.out)); (case side2 => exact HC0_0.out); (case side3 => exact cM (Kd.C_below HR0_1.out HB.out)); (case side4 => exact HC0_1.out); (case side5 => exact cM (Kd.C_below HR0_2.out HB.out)); (case side6 => exact HC0_2.out); rintro e w58 ⟨rfl, hb⟩; refine ⟨_, rfl, ?_⟩; have n0_ := Aside0.mk (Kd.R_below (rM HO_28000.out) hb); have n1_ := Aside0.mk (Kd.R_below (rM HO_28001.out) hb); have n2_ := Aside0.mk (Kd.R_below (rM HO_28002.out) hb); have n3_ := Aside0.mk (blk_below (kM BK11.out) hb); have n4_ := Aside0.mk (blk_below (kM BK12.out) hb); have n5_ := Aside0.mk (blk_below (kM BK27.out) hb); have n6_ := Aside0.mk (below_step (by first | exact wM HB.out | exact wF HB.out GE11.out | exact wF1 HB.out GE11.out | exact wF HB.out GE12.out | exact wF1 HB.out GE12.out | exact wF HB.out GE27.out | exact wF1 HB.out GE27.out) hb); clear HO_28000; clear HO_28001; clear HO_28002; clear BK11; clear BK12; clear BK27; clear HB; have HO_28000 := n0_; have HO_28001 := n1_; have HO_28002 := n2_; have BK11 := n3_; have BK12 := n4_; have BK27 := n5_; have HB := n6_; clear n0_ n1_ n2_ n3_ n4_ n5_ n6_; (try clear hb); (try clear hb2); (try clear hk); (try clear hi); have hcz59_0 : w58.cell? ⟨gb11, 0, none⟩ = some (.slice A0_0 l0_0.length c0_0) := (blk_cell BK11.out 0).trans rfl; have hcz59_1 : w58.cell? ⟨gb11, 1, none⟩ = some (.slice A0_1 l0_1.length c0_1) := (blk_cell BK11.out 1).trans rfl; have hcz59_2 : w58.cell? ⟨gb11, 2, none⟩ = some (.slice A0_2 l0_2.length c0_2) := (blk_cell BK11.out 2).trans rfl; have hfz59_0 := blk_frozen BK11.out 0; have hfz59_1 := blk_frozen BK11.out 1; have hfz59_2 := blk_frozen BK11.out 2; have hcz60_0 : w58.cell? ⟨gb12, 0, none⟩ = some (.bool a1_0) := (blk_cell BK12.out 0).trans rfl; have hcz60_1 : w58.cell? ⟨gb12, 1, none⟩ = some (.int .i64 a1_1) := (blk_cell BK12.out 1).trans rfl; have hcz60_2 : w58.cell? ⟨gb12, 2, none⟩ = some (.int .i64 a1_2) := (blk_cell BK12.out 2).trans rfl; have hcz60_3 : w58.cell? ⟨gb12, 3, none⟩ = some (.int .i64 a1_3) := (blk_cell BK12.out 3).trans rfl; have hfz60_0 := blk_frozen BK12.out 0; have hfz60_1 := blk_frozen BK12.out 1; have hfz60_2 := blk_frozen BK12.out 2; have hfz60_3 := blk_frozen BK12.out 3) | ((with_reducible refine gate_callee (f := 47) rfl ?_); refine goesL_ (some 69) rfl rfl Try.func47 (by kernel_rfl) rfl #[.agg #[.slice A0_0 l0_0.length c0_0, .slice A0_1 l0_1.length c0_1, .slice A0_2 l0_2.length c0_2], .agg #[.bool a1_0, .int .i64 a1_1, .int .i64 a1_2, .int .i64 a1_3], .int .i64 (-1)] rfl (by (try simp only [List.map_toArray, List.map_cons, List.map_nil]); first | done | rfl | (simp only [List.length_drop, List.length_take]; rfl)) ?_; (with_reducible refine (memo_Put.calls kj21 _ _ l0_0 _ _ l0_1 _ _ l0_2 a1_0 a1_1 a1_2 a1_3 (-1) t33 t36 t39 t42 t43 _ ?side1 ?side2 ?side3 ?side4 ?side5 ?side6 A51.out).mono ?_); (case side1 => exact cM (Kd.C_below HR0_0.out HB.out)); (case side2 => exact HC0_0.out); (case side3 => exact cM (Kd.C_below HR0_1.out HB.out)); (case side4 => exact HC0_1.out); (case side5 => exact cM (Kd.C_below HR0_2.out HB.out)); (case side6 => exact HC0_2.out); rintro e w61 ⟨v34, v37, v40, rfl, ho0, ho1, ho2, hb⟩; refine ⟨_, rfl, ?_⟩; have n0_ := Aside0.mk (Kd.R_elder' (rM HO_28000.out) (Kd.R_base ho0) hb); have n1_ := Aside0.mk (Kd.R_mono (Kd.R_told (Kd.R_told (Kd.R_old (rM HO_28001.out) hb) (Kd.R_base ho1)) (Kd.R_base ho2)) (fun _ h_ => h_.1)); have n2_ := Aside0.mk (Kd.R_mono (Kd.R_told (Kd.R_told (Kd.R_old (rM HO_28002.out) hb) (Kd.R_base ho1)) (Kd.R_base ho2)) (fun _ h_ => h_.1)); have n3_ := Aside0.mk (Kd.R_lower (Kd.R_newB (Kd.R_new' ho0 (Kd.R_lt (rM HO_28000.out))) (kM BK12.out)) (below_size (by first | exact wM HB.out | exact wF HB.out GE11.out | exact wF1 HB.out GE11.out | exact wF HB.out GE12.out | exact wF1 HB.out GE12.out | exact wF HB.out GE27.out | exact wF1 HB.out GE27.out))); have n4_ := Aside0.mk (Kd.R_lower (Kd.R_new' (Kd.R_new' ho1 (Kd.R_lt (rM HO_28001.out))) (Kd.R_lt (rM HO_28002.out))) (below_size (by first | exact wM HB.out | exact wF HB.out GE11.out | exact wF1 HB.out GE11.out | exact wF HB.out GE12.out | exact wF1 HB.out GE12.out | exact wF HB.out GE27.out | exact wF1 HB.out GE27.out))); have n5_ := Aside0.mk (Kd.R_lower (Kd.R_new' (Kd.R_new' ho2 (Kd.R_lt (rM HO_28001.out))) (Kd.R_lt (rM HO_28002.out))) (below_size (by first | exact wM HB.out | exact wF HB.out GE11.out | exact wF1 HB.out GE11.out | exact wF HB.out GE12.out | exact wF1 HB.out GE12.out | exact wF HB.out GE27.out | exact wF1 HB.out GE27.out))); have n6_ := Aside0.mk (blk_below (kM BK11.out) hb); have n7_ := Aside0.mk (blk_below (kM BK12.out) hb); have n8_ := Aside0.mk (blk_below (kM BK27.out) hb); have n9_ := Aside0.mk (below_step (by first | exact wM HB.out | exact wF HB.out GE11.out | exact wF1 HB.out GE11.out | exact wF HB.out GE12.out | exact wF1 HB.out GE12.out | exact wF HB.out GE27.out | exact wF1 HB.out GE27.out) hb); clear HO_28000; clear HO_28001; clear HO_28002; clear BK11; clear BK12; clear BK27; clear HB; have HO_28000 := n0_; have HO_28001 := n1_; have HO_28002 := n2_; have HO35 := n3_; have HO38 := n4_; have HO41 := n5_; have BK11 := n6_; have BK12 := n7_; have BK27 := n8_; have HB := n9_; clear n0_ n1_ n2_ n3_ n4_ n5_ n6_ n7_ n8_ n9_; (try clear hb); (try clear hb2); (try clear hk); (try clear hi); (try clear ho0); (try clear ho1); (try clear ho2)) | ((with_reducible refine gate_dst (N := 16) rfl ?_); (try (refine gate_guard (by rfl) ?_; dsimp only)); refine box_event ?hg (N := 16) ?hd (cs := #[.slice none 0 0, .slice none 0 0, .slice none 0 0]) (t := 38) ?hr ?_; (case hd => rfl); (case hg => rfl); (case hr => first | (go_simp; done) | (go_simp; rfl)); intro gb44 hg w62 hbox hb; have n0_ := Aside0.mk (Kd.R_below (rM HO_28000.out) hb); have n1_ := Aside0.mk (Kd.R_below (rM HO_28001.out) hb); have n2_ := Aside0.mk (Kd.R_below (rM HO_28002.out) hb); have n3_ := Aside0.mk (Kd.R_below (rM HO35.out) hb); have n4_ := Aside0.mk (Kd.R_below (rM HO38.out) hb); have n5_ := Aside0.mk (Kd.R_below (rM HO41.out) hb); have n6_ := Aside0.mk (blk_below (kM BK11.out) hb); have n7_ := Aside0.mk (blk_below (kM BK12.out) hb); have n8_ := Aside0.mk (blk_below (kM BK27.out) hb); have n9_ := Aside0.mk (below_step (by first | exact wM HB.out | exact wF HB.out GE11.out | exact wF1 HB.out GE11.out | exact wF HB.out GE12.out | exact wF1 HB.out GE12.out | exact wF HB.out GE27.out | exact wF1 HB.out GE27.out) hb); have n10_ := Aside0.mk (hbox); have n11_ := Aside0.mk ((by rw [hg]; exact (below_size (by first | exact wM HB.out | exact wF HB.out GE11.out | exact wF1 HB.out GE11.out | exact wF HB.out GE12.out | exact wF1 HB.out GE12.out | exact wF HB.out GE27.out | exact wF1 HB.out GE27.out)) : w.heap.size ≤ gb44)); have n12_ := Aside0.mk ((by rw [hg]; exact (below_size (by first | exact wM HB.out | exact wF HB.out GE11.out | exact wF1 HB.out GE11.out | exact wF HB.out GE12.out | exact wF1 HB.out GE12.out | exact wF HB.out GE27.out | exact wF1 HB.out GE27.out)) : w.heap.size ≤ gb44)); have n13_ := Aside0.mk ((by rw [hg]; exact Nat.ne_of_lt (blk_lt (kM BK11.out)) : gb11 ≠ gb44)); have n14_ := Aside0.mk ((by rw [hg]; exact Nat.ne_of_gt (blk_lt (kM BK11.out)) : gb44 ≠ gb11)); have n15_ := Aside0.mk ((by rw [hg]; exact Nat.ne_of_lt (blk_lt (kM BK12.out)) : gb12 ≠ gb44)); have n16_ := Aside0.mk ((by rw [hg]; exact Nat.ne_of_gt (blk_lt (kM BK12.out)) : gb44 ≠ gb12)); have n17_ := Aside0.mk ((by rw [hg]; exact Nat.ne_of_lt (blk_lt (kM BK27.out)) : gb27 ≠ gb44)); have n18_ := Aside0.mk ((by rw [hg]; exact Nat.ne_of_gt (blk_lt (kM BK27.out)) : gb44 ≠ gb27)); clear HO_28000; clear HO_28001; clear HO_28002; clear HO35; clear HO38; clear HO41; clear BK11; clear BK12; clear BK27; clear HB; have HO_28000 := n0_; have HO_28001 := n1_; have HO_28002 := n2_; have HO35 := n3_; have HO38 := n4_; have HO41 := n5_; have BK11 := n6_; have BK12 := n7_; have BK27 := n8_; have HB := n9_; have BK44 := n10_; have GW44 := n11_; have GE44 := n12_; have NB11_44 := n13_; have NB44_11 := n14_; have NB12_44 := n15_; have NB44_12 := n16_; have NB27_44 := n17_; have NB44_27 := n18_; clear n0_ n1_ n2_ n3_ n4_ n5_ n6_ n7_ n8_ n9_ n10_ n11_ n12_ n13_ n14_ n15_ n16_ n17_ n18_; clear hb hbox hg; obtain ⟨Ao63, co63, eo63⟩ := Kd.R_slice HO35.out; subst eo63; have hnb64 := NB44_11.out; have hnc64 := NB11_44.out; have hnb65 := NB44_12.out; have hnc65 := NB12_44.out; have hnb66 := NB44_27.out; have hnc66 := NB27_44.out; have hcz67_0 : w62.cell? ⟨gb44, 0, none⟩ = some (.slice none 0 0) := (blk_cell BK44.out 0).trans rfl; have hcz67_1 : w62.cell? ⟨gb44, 1, none⟩ = some (.slice none 0 0) := (blk_cell BK44.out 1).trans rfl; have hcz67_2 : w62.cell? ⟨gb44, 2, none⟩ = some (.slice none 0 0) := (blk_cell BK44.out 2).trans rfl; have hfz67_0 := blk_frozen BK44.out 0; have hfz67_1 := blk_frozen BK44.out 1; have hfz67_2 := blk_frozen BK44.out 2; obtain ⟨Ao68, co68, eo68⟩ := Kd.R_slice HO38.out; subst eo68; obtain ⟨Ao69, co69, eo69⟩ := Kd.R_slice HO41.out; subst eo69))
              (try simp only [Act.put, List.setIfInBounds_toArray, List.set_cons_zero, List.set_cons_succ])
              go_cut [77] (fun v77 wc => ∃ (kq : Nat) (x77_51 : Bool), v77 = .bool x77_51 ∧ Aside0 (roadbooklaw16_MemoOne.j2 kq t42 t43 x77_51 l0_0 l0_1 l0_2 t33 t36 t39 = some r) ∧ Aside0 (kq ≤ kj21) ∧ Aside0 (Kd.R k48 48 wc w.heap.size (fun k_ => some k_ ≠ ((.slice Ao63 t33.length co63) : Value).ownBlock ∧ k_ ≠ gb12) (.slice Ao27 t16.length co27) t16) ∧ Aside0 (Kd.R (Kd.int .i64) 3 wc w.heap.size (fun k_ => some k_ ≠ ((.slice Ao32 t22.length co32) : Value).ownBlock ∧ some k_ ≠ ((.slice Ao68 t36.length co68) : Value).ownBlock ∧ some k_ ≠ ((.slice Ao69 t39.length co69) : Value).ownBlock) (.slice Ao31 t19.length co31) t19) ∧ Aside0 (Kd.R (Kd.int .i64) 3 wc w.heap.size (fun k_ => some k_ ≠ ((.slice Ao31 t19.length co31) : Value).ownBlock ∧ some k_ ≠ ((.slice Ao68 t36.length co68) : Value).ownBlock ∧ some k_ ≠ ((.slice Ao69 t39.length co69) : Value).ownBlock) (.slice Ao32 t22.length co32) t22) ∧ Aside0 (Kd.R k48 48 wc w.heap.size (fun k_ => some k_ ≠ ((.slice Ao27 t16.length co27) : Value).ownBlock ∧ k_ ≠ gb12) (.slice Ao63 t33.length co63) t33) ∧ Aside0 (Kd.R (Kd.int .i64) 3 wc w.heap.size (fun k_ => some k_ ≠ ((.slice Ao31 t19.length co31) : Value).ownBlock ∧ some k_ ≠ ((.slice Ao32 t22.length co32) : Value).ownBlock ∧ some k_ ≠ ((.slice Ao69 t39.length co69) : Value).ownBlock) (.slice Ao68 t36.length co68) t36) ∧ Aside0 (Kd.R (Kd.int .i64) 3 wc w.heap.size (fun k_ => some k_ ≠ ((.slice Ao31 t19.length co31) : Value).ownBlock ∧ some k_ ≠ ((.slice Ao32 t22.length co32) : Value).ownBlock ∧ some k_ ≠ ((.slice Ao68 t36.length co68) : Value).ownBlock) (.slice Ao69 t39.length co69) t39) ∧ Aside0 (wc.heap[gb11]? = some (.cells #[(.slice A0_0 l0_0.length c0_0), (.slice A0_1 l0_1.length c0_1), (.slice A0_2 l0_2.length c0_2)] 38 (0, 0))) ∧ Aside0 (wc.heap[gb12]? = some (.cells #[.bool a1_0, .int .i64 a1_1, .int .i64 a1_2, .int .i64 a1_3] 48 (0, 0))) ∧ Aside0 (wc.heap[gb27]? = some (.cells #[(.slice Ao27 t16.length co27), (.slice Ao31 t19.length co31), (.slice Ao32 t22.length co32)] 38 (0, 0))) ∧ Aside0 (wc.heap[gb44]? = some (.cells #[(.slice Ao63 t33.length co63), (.slice Ao68 t36.length co68), (.slice Ao69 t39.length co69)] 38 (0, 0))) ∧ Aside0 (Below w.heap.size w wc))
              case first =>
                have H := HC52.out
                clear HC52
                by_cases c70 : t43 = 0
                · rw [if_pos c70] at H
                  have c70b0 : (t43 == 0) = true := beq_iff_eq.mpr c70
                  have c70b1 : (t43 != 0) = false := bne_eq_false_iff_eq.mpr c70
                  clear c70
                  (first | rw [c70b0] | (simp only [i64_w, i32_w]; rw [c70b0]) | skip)
                  have H' := Aside0.mk H
                  clear H
                  go_wp2
                  go_meet
                  case rel => exact ⟨_, (t32), (by first | rfl | (simp; done) | (simp [*]; done)), H', ⟨by have := HJ6.out; have := HJ21.out; first | omega | exact Nat.le_refl _⟩, ⟨by (with_reducible repeat (first | apply Kd.R_alloc | apply Kd.R_drewN | apply Kd.R_drew)); exact Kd.R_mono (Kd.R_far (p := ⟨gb44, 2, none⟩) (Kd.R_far (p := ⟨gb44, 1, none⟩) (Kd.R_far (p := ⟨gb44, 0, none⟩) (Kd.R_types HO_28000.out BK44.out (by decide)) (fun _ hk => hk.2) (.slice Ao63 t33.length co63)) (fun _ hk => hk.2) (.slice Ao68 t36.length co68)) (fun _ hk => hk.2) (.slice Ao69 t39.length co69)) (fun _ hk => ⟨hk.1.2, hk.1.1⟩)⟩, ⟨by (with_reducible repeat (first | apply Kd.R_alloc | apply Kd.R_drewN | apply Kd.R_drew)); exact Kd.R_mono (Kd.R_far (p := ⟨gb44, 2, none⟩) (Kd.R_far (p := ⟨gb44, 1, none⟩) (Kd.R_far (p := ⟨gb44, 0, none⟩) (Kd.R_types HO_28001.out BK44.out (by decide)) (fun _ hk => hk.2) (.slice Ao63 t33.length co63)) (fun _ hk => hk.2) (.slice Ao68 t36.length co68)) (fun _ hk => hk.2) (.slice Ao69 t39.length co69)) (fun _ hk => ⟨hk.1.1.1, ⟨hk.1.1.2, hk.1.2⟩⟩)⟩, ⟨by (with_reducible repeat (first | apply Kd.R_alloc | apply Kd.R_drewN | apply Kd.R_drew)); exact Kd.R_mono (Kd.R_far (p := ⟨gb44, 2, none⟩) (Kd.R_far (p := ⟨gb44, 1, none⟩) (Kd.R_far (p := ⟨gb44, 0, none⟩) (Kd.R_types HO_28002.out BK44.out (by decide)) (fun _ hk => hk.2) (.slice Ao63 t33.length co63)) (fun _ hk => hk.2) (.slice Ao68 t36.length co68)) (fun _ hk => hk.2) (.slice Ao69 t39.length co69)) (fun _ hk => ⟨hk.1.1.1, ⟨hk.1.1.2, hk.1.2⟩⟩)⟩, ⟨by (with_reducible repeat (first | apply Kd.R_alloc | apply Kd.R_drewN | apply Kd.R_drew)); exact Kd.R_mono (Kd.R_far (p := ⟨gb44, 2, none⟩) (Kd.R_far (p := ⟨gb44, 1, none⟩) (Kd.R_far (p := ⟨gb44, 0, none⟩) (Kd.R_types HO35.out BK44.out (by decide)) (fun _ hk => hk.2) (.slice Ao63 t33.length co63)) (fun _ hk => hk.2) (.slice Ao68 t36.length co68)) (fun _ hk => hk.2) (.slice Ao69 t39.length co69)) (fun _ hk => ⟨hk.1.1.2, hk.1.2⟩)⟩, ⟨by (with_reducible repeat (first | apply Kd.R_alloc | apply Kd.R_drewN | apply Kd.R_drew)); exact Kd.R_mono (Kd.R_far (p := ⟨gb44, 2, none⟩) (Kd.R_far (p := ⟨gb44, 1, none⟩) (Kd.R_far (p := ⟨gb44, 0, none⟩) (Kd.R_types HO38.out BK44.out (by decide)) (fun _ hk => hk.2) (.slice Ao63 t33.length co63)) (fun _ hk => hk.2) (.slice Ao68 t36.length co68)) (fun _ hk => hk.2) (.slice Ao69 t39.length co69)) (fun _ hk => ⟨hk.1.1.2, ⟨hk.1.2, hk.1.1.1⟩⟩)⟩, ⟨by (with_reducible repeat (first | apply Kd.R_alloc | apply Kd.R_drewN | apply Kd.R_drew)); exact Kd.R_mono (Kd.R_far (p := ⟨gb44, 2, none⟩) (Kd.R_far (p := ⟨gb44, 1, none⟩) (Kd.R_far (p := ⟨gb44, 0, none⟩) (Kd.R_types HO41.out BK44.out (by decide)) (fun _ hk => hk.2) (.slice Ao63 t33.length co63)) (fun _ hk => hk.2) (.slice Ao68 t36.length co68)) (fun _ hk => hk.2) (.slice Ao69 t39.length co69)) (fun _ hk => ⟨hk.1.1.2, ⟨hk.1.2, hk.1.1.1⟩⟩)⟩, ⟨by (with_reducible repeat (first | refine blk_drewN ?_ _ | refine blk_drew ?_ | refine blk_alloc ?_ _)); refine blk_far ?_ NB11_44.out _; (with_reducible repeat (first | refine blk_drewN ?_ _ | refine blk_drew ?_ | refine blk_alloc ?_ _)); refine blk_far ?_ NB11_44.out _; (with_reducible repeat (first | refine blk_drewN ?_ _ | refine blk_drew ?_ | refine blk_alloc ?_ _)); refine blk_far ?_ NB11_44.out _; (with_reducible repeat (first | refine blk_drewN ?_ _ | refine blk_drew ?_ | refine blk_alloc ?_ _)); exact BK11.out⟩, ⟨by (with_reducible repeat (first | refine blk_drewN ?_ _ | refine blk_drew ?_ | refine blk_alloc ?_ _)); refine blk_far ?_ NB12_44.out _; (with_reducible repeat (first | refine blk_drewN ?_ _ | refine blk_drew ?_ | refine blk_alloc ?_ _)); refine blk_far ?_ NB12_44.out _; (with_reducible repeat (first | refine blk_drewN ?_ _ | refine blk_drew ?_ | refine blk_alloc ?_ _)); refine blk_far ?_ NB12_44.out _; (with_reducible repeat (first | refine blk_drewN ?_ _ | refine blk_drew ?_ | refine blk_alloc ?_ _)); exact BK12.out⟩, ⟨by (with_reducible repeat (first | refine blk_drewN ?_ _ | refine blk_drew ?_ | refine blk_alloc ?_ _)); refine blk_far ?_ NB27_44.out _; (with_reducible repeat (first | refine blk_drewN ?_ _ | refine blk_drew ?_ | refine blk_alloc ?_ _)); refine blk_far ?_ NB27_44.out _; (with_reducible repeat (first | refine blk_drewN ?_ _ | refine blk_drew ?_ | refine blk_alloc ?_ _)); refine blk_far ?_ NB27_44.out _; (with_reducible repeat (first | refine blk_drewN ?_ _ | refine blk_drew ?_ | refine blk_alloc ?_ _)); exact BK27.out⟩, ⟨by (with_reducible repeat (first | refine blk_drewN ?_ _ | refine blk_drew ?_ | refine blk_alloc ?_ _)); refine blk_put (cs := #[.slice Ao63 t33.length co63, .slice Ao68 t36.length co68, .slice none 0 0]) ?_ 2 _ rfl; (with_reducible repeat (first | refine blk_drewN ?_ _ | refine blk_drew ?_ | refine blk_alloc ?_ _)); refine blk_put (cs := #[.slice Ao63 t33.length co63, .slice none 0 0, .slice none 0 0]) ?_ 1 _ rfl; (with_reducible repeat (first | refine blk_drewN ?_ _ | refine blk_drew ?_ | refine blk_alloc ?_ _)); refine blk_put (cs := #[.slice none 0 0, .slice none 0 0, .slice none 0 0]) ?_ 0 _ rfl; (with_reducible repeat (first | refine blk_drewN ?_ _ | refine blk_drew ?_ | refine blk_alloc ?_ _)); exact BK44.out⟩, ⟨by repeat (first | (with_reducible first | exact HB.out | apply below_alloc | apply pw_below_drewN | apply below_drew1 | refine below_set ?_ GE11.out | refine below_set ?_ GE12.out | refine below_set ?_ GE27.out | refine below_set ?_ GE44.out) | exact HB.out)⟩⟩
                · rw [if_neg c70] at H
                  have c70b0 : (t43 == 0) = false := beq_eq_false_iff_ne.mpr c70
                  have c70b1 : (t43 != 0) = true := bne_iff_ne.mpr c70
                  (first | rw [c70b0] | (simp only [i64_w, i32_w]; rw [c70b0]) | skip)
                  have H' := Aside0.mk H
                  clear H
                  go_wp2
                  go_meet
                  case rel => exact ⟨_, (true), (by first | rfl | (simp; done) | (simp [*]; done)), H', ⟨by have := HJ6.out; have := HJ21.out; first | omega | exact Nat.le_refl _⟩, ⟨by (with_reducible repeat (first | apply Kd.R_alloc | apply Kd.R_drewN | apply Kd.R_drew)); exact Kd.R_mono (Kd.R_far (p := ⟨gb44, 2, none⟩) (Kd.R_far (p := ⟨gb44, 1, none⟩) (Kd.R_far (p := ⟨gb44, 0, none⟩) (Kd.R_types HO_28000.out BK44.out (by decide)) (fun _ hk => hk.2) (.slice Ao63 t33.length co63)) (fun _ hk => hk.2) (.slice Ao68 t36.length co68)) (fun _ hk => hk.2) (.slice Ao69 t39.length co69)) (fun _ hk => ⟨hk.1.2, hk.1.1⟩)⟩, ⟨by (with_reducible repeat (first | apply Kd.R_alloc | apply Kd.R_drewN | apply Kd.R_drew)); exact Kd.R_mono (Kd.R_far (p := ⟨gb44, 2, none⟩) (Kd.R_far (p := ⟨gb44, 1, none⟩) (Kd.R_far (p := ⟨gb44, 0, none⟩) (Kd.R_types HO_28001.out BK44.out (by decide)) (fun _ hk => hk.2) (.slice Ao63 t33.length co63)) (fun _ hk => hk.2) (.slice Ao68 t36.length co68)) (fun _ hk => hk.2) (.slice Ao69 t39.length co69)) (fun _ hk => ⟨hk.1.1.1, ⟨hk.1.1.2, hk.1.2⟩⟩)⟩, ⟨by (with_reducible repeat (first | apply Kd.R_alloc | apply Kd.R_drewN | apply Kd.R_drew)); exact Kd.R_mono (Kd.R_far (p := ⟨gb44, 2, none⟩) (Kd.R_far (p := ⟨gb44, 1, none⟩) (Kd.R_far (p := ⟨gb44, 0, none⟩) (Kd.R_types HO_28002.out BK44.out (by decide)) (fun _ hk => hk.2) (.slice Ao63 t33.length co63)) (fun _ hk => hk.2) (.slice Ao68 t36.length co68)) (fun _ hk => hk.2) (.slice Ao69 t39.length co69)) (fun _ hk => ⟨hk.1.1.1, ⟨hk.1.1.2, hk.1.2⟩⟩)⟩, ⟨by (with_reducible repeat (first | apply Kd.R_alloc | apply Kd.R_drewN | apply Kd.R_drew)); exact Kd.R_mono (Kd.R_far (p := ⟨gb44, 2, none⟩) (Kd.R_far (p := ⟨gb44, 1, none⟩) (Kd.R_far (p := ⟨gb44, 0, none⟩) (Kd.R_types HO35.out BK44.out (by decide)) (fun _ hk => hk.2) (.slice Ao63 t33.length co63)) (fun _ hk => hk.2) (.slice Ao68 t36.length co68)) (fun _ hk => hk.2) (.slice Ao69 t39.length co69)) (fun _ hk => ⟨hk.1.1.2, hk.1.2⟩)⟩, ⟨by (with_reducible repeat (first | apply Kd.R_alloc | apply Kd.R_drewN | apply Kd.R_drew)); exact Kd.R_mono (Kd.R_far (p := ⟨gb44, 2, none⟩) (Kd.R_far (p := ⟨gb44, 1, none⟩) (Kd.R_far (p := ⟨gb44, 0, none⟩) (Kd.R_types HO38.out BK44.out (by decide)) (fun _ hk => hk.2) (.slice Ao63 t33.length co63)) (fun _ hk => hk.2) (.slice Ao68 t36.length co68)) (fun _ hk => hk.2) (.slice Ao69 t39.length co69)) (fun _ hk => ⟨hk.1.1.2, ⟨hk.1.2, hk.1.1.1⟩⟩)⟩, ⟨by (with_reducible repeat (first | apply Kd.R_alloc | apply Kd.R_drewN | apply Kd.R_drew)); exact Kd.R_mono (Kd.R_far (p := ⟨gb44, 2, none⟩) (Kd.R_far (p := ⟨gb44, 1, none⟩) (Kd.R_far (p := ⟨gb44, 0, none⟩) (Kd.R_types HO41.out BK44.out (by decide)) (fun _ hk => hk.2) (.slice Ao63 t33.length co63)) (fun _ hk => hk.2) (.slice Ao68 t36.length co68)) (fun _ hk => hk.2) (.slice Ao69 t39.length co69)) (fun _ hk => ⟨hk.1.1.2, ⟨hk.1.2, hk.1.1.1⟩⟩)⟩, ⟨by (with_reducible repeat (first | refine blk_drewN ?_ _ | refine blk_drew ?_ | refine blk_alloc ?_ _)); refine blk_far ?_ NB11_44.out _; (with_reducible repeat (first | refine blk_drewN ?_ _ | refine blk_drew ?_ | refine blk_alloc ?_ _)); refine blk_far ?_ NB11_44.out _; (with_reducible repeat (first | refine blk_drewN ?_ _ | refine blk_drew ?_ | refine blk_alloc ?_ _)); refine blk_far ?_ NB11_44.out _; (with_reducible repeat (first | refine blk_drewN ?_ _ | refine blk_drew ?_ | refine blk_alloc ?_ _)); exact BK11.out⟩, ⟨by (with_reducible repeat (first | refine blk_drewN ?_ _ | refine blk_drew ?_ | refine blk_alloc ?_ _)); refine blk_far ?_ NB12_44.out _; (with_reducible repeat (first | refine blk_drewN ?_ _ | refine blk_drew ?_ | refine blk_alloc ?_ _)); refine blk_far ?_ NB12_44.out _; (with_reducible repeat (first | refine blk_drewN ?_ _ | refine blk_drew ?_ | refine blk_alloc ?_ _)); refine blk_far ?_ NB12_44.out _; (with_reducible repeat (first | refine blk_drewN ?_ _ | refine blk_drew ?_ | refine blk_alloc ?_ _)); exact BK12.out⟩, ⟨by (with_reducible repeat (first | refine blk_drewN ?_ _ | refine blk_drew ?_ | refine blk_alloc ?_ _)); refine blk_far ?_ NB27_44.out _; (with_reducible repeat (first | refine blk_drewN ?_ _ | refine blk_drew ?_ | refine blk_alloc ?_ _)); refine blk_far ?_ NB27_44.out _; (with_reducible repeat (first | refine blk_drewN ?_ _ | refine blk_drew ?_ | refine blk_alloc ?_ _)); refine blk_far ?_ NB27_44.out _; (with_reducible repeat (first | refine blk_drewN ?_ _ | refine blk_drew ?_ | refine blk_alloc ?_ _)); exact BK27.out⟩, ⟨by (with_reducible repeat (first | refine blk_drewN ?_ _ | refine blk_drew ?_ | refine blk_alloc ?_ _)); refine blk_put (cs := #[.slice Ao63 t33.length co63, .slice Ao68 t36.length co68, .slice none 0 0]) ?_ 2 _ rfl; (with_reducible repeat (first | refine blk_drewN ?_ _ | refine blk_drew ?_ | refine blk_alloc ?_ _)); refine blk_put (cs := #[.slice Ao63 t33.length co63, .slice none 0 0, .slice none 0 0]) ?_ 1 _ rfl; (with_reducible repeat (first | refine blk_drewN ?_ _ | refine blk_drew ?_ | refine blk_alloc ?_ _)); refine blk_put (cs := #[.slice none 0 0, .slice none 0 0, .slice none 0 0]) ?_ 0 _ rfl; (with_reducible repeat (first | refine blk_drewN ?_ _ | refine blk_drew ?_ | refine blk_alloc ?_ _)); exact BK44.out⟩, ⟨by repeat (first | (with_reducible first | exact HB.out | apply below_alloc | apply pw_below_drewN | apply below_drew1 | refine below_set ?_ GE11.out | refine below_set ?_ GE12.out | refine below_set ?_ GE27.out | refine below_set ?_ GE44.out) | exact HB.out)⟩⟩
              case rest =>
                clear HC52
                try clear p2
                try clear c3
                try clear c4
                try clear c5
                try clear c6
                try clear c7
                try clear c33
                try clear c33b0
                try clear c33b1
                try clear c36
                try clear c36b0
                try clear c36b1
                try clear c42
                try clear c45
                try clear c46
                try clear c47
                try clear c49
                try clear c53
                try clear c54
                try clear c56
                try clear c64
                try clear c65
                try clear c66
                try clear c70
                try clear c70b0
                try clear c70b1
                try clear hcz55_0
                try clear hcz55_1
                try clear hcz55_2
                try clear hcz57_0
                try clear hcz57_1
                try clear hcz57_2
                try clear hcz57_3
                try clear hcz59_0
                try clear hcz59_1
                try clear hcz59_2
                try clear hcz60_0
                try clear hcz60_1
                try clear hcz60_2
                try clear hcz60_3
                try clear hcz67_0
                try clear hcz67_1
                try clear hcz67_2
                try clear hfz55_0
                try clear hfz55_1
                try clear hfz55_2
                try clear hfz57_0
                try clear hfz57_1
                try clear hfz57_2
                try clear hfz57_3
                try clear hfz59_0
                try clear hfz59_1
                try clear hfz59_2
                try clear hfz60_0
                try clear hfz60_1
                try clear hfz60_2
                try clear hfz60_3
                try clear hfz67_0
                try clear hfz67_1
                try clear hfz67_2
                try clear p2
                obtain ⟨kq, x77_51, rfl, HA, HJ51, HO_28000, HO_28001, HO_28002, HO_45000, HO_45001, HO_45002, BK11, BK12, BK27, BK44, HB⟩ := hcut
                cases kq with
                | zero => exact absurd HA.out (by simp [roadbooklaw16_MemoOne.j2])
                | succ kj51 =>
                  have H := HA.out
                  clear HA
                  simp only [roadbooklaw16_MemoOne.j2] at H
                  by_cases c71 : x77_51 = true
                  · subst c71
                    have H1 : (if t43 = 0 then ((memo_Same.f kj51 t33 t36 t39 l0_0 l0_1 l0_2).bind fun t45 => (some t45)) else (some true)) = some r := by rw [if_pos rfl] at H; exact H
                    clear H
                    have H := H1
                    clear H1
                    by_cases c72 : t43 = 0
                    · rw [if_pos c72] at H
                      have c72b0 : (t43 == 0) = true := beq_iff_eq.mpr c72
                      have c72b1 : (t43 != 0) = false := bne_eq_false_iff_eq.mpr c72
                      clear c72
                      replace H := Option.bind_eq_some_iff.mp H
                      obtain ⟨t45, A730, H⟩ := H
                      replace H : (some t45) = some r := H
                      have A73 := Aside0.mk A730
                      clear A730
                      obtain rfl := Option.some.inj H
                      have hnb74 := NB44_11.out
                      have hnc74 := NB11_44.out
                      have hnb75 := NB44_12.out
                      have hnc75 := NB12_44.out
                      have hnb76 := NB44_27.out
                      have hnc76 := NB27_44.out
                      have hcz77_0 : wc.cell? ⟨gb44, 0, none⟩ = some (.slice Ao63 t33.length co63) := (blk_cell BK44.out 0).trans rfl
                      have hcz77_1 : wc.cell? ⟨gb44, 1, none⟩ = some (.slice Ao68 t36.length co68) := (blk_cell BK44.out 1).trans rfl
                      have hcz77_2 : wc.cell? ⟨gb44, 2, none⟩ = some (.slice Ao69 t39.length co69) := (blk_cell BK44.out 2).trans rfl
                      have hfz77_0 := blk_frozen BK44.out 0
                      have hfz77_1 := blk_frozen BK44.out 1
                      have hfz77_2 := blk_frozen BK44.out 2
                      have hnb78 := NB11_12.out
                      have hnc78 := NB12_11.out
                      have hnb79 := NB11_27.out
                      have hnc79 := NB27_11.out
                      have hcz80_0 : wc.cell? ⟨gb11, 0, none⟩ = some (.slice A0_0 l0_0.length c0_0) := (blk_cell BK11.out 0).trans rfl
                      have hcz80_1 : wc.cell? ⟨gb11, 1, none⟩ = some (.slice A0_1 l0_1.length c0_1) := (blk_cell BK11.out 1).trans rfl
                      have hcz80_2 : wc.cell? ⟨gb11, 2, none⟩ = some (.slice A0_2 l0_2.length c0_2) := (blk_cell BK11.out 2).trans rfl
                      have hfz80_0 := blk_frozen BK11.out 0
                      have hfz80_1 := blk_frozen BK11.out 1
                      have hfz80_2 := blk_frozen BK11.out 2
                      go_wp2_with (first | (go_at_call 46; (with_reducible refine (memo_Same.calls kj51 _ _ t33 _ _ t36 _ _ t39 _ _ l0_0 _ _ l0_1 _ _ l0_2 t45 _ ?side1 ?side2 ?side3 ?side4 ?side5 ?side6 ?side7 ?side8 ?side9 ?side10 ?side11 ?side12 A73.out).mono ?_); (case side1 => exact cM (Kd.R_reads' HO_45000.out).2.2); (case side2 => exact (Kd.R_reads' HO_45000.out).2.1); (case side3 => exact cM (Kd.R_reads' HO_45001.out).2.2); (case side4 => exact (Kd.R_reads' HO_45001.out).2.1); (case side5 => exact cM (Kd.R_reads' HO_45002.out).2.2); (case side6 => exact (Kd.R_reads' HO_45002.out).2.1); (case side7 => exact cM (Kd.C_below HR0_0.out HB.out)); (case side8 => exact HC0_0.out); (case side9 => exact cM (Kd.C_below HR0_1.out HB.out)); (case side10 => exact HC0_1.out); (case side11 => exact cM (Kd.C_below HR0_2.out HB.out)); (case side12 => exact HC0_2.out); rintro e w81 ⟨rfl, hb⟩; have n0_ := Aside0.mk (Kd.R_below (rM HO_28000.out) hb); have n1_ := Aside0.mk (Kd.R_below (rM HO_28001.out) hb); have n2_ := Aside0.mk (Kd.R_below (rM HO_28002.out) hb); have n3_ := Aside0.mk (Kd.R_below (rM HO_45000.out) hb); have n4_ := Aside0.mk (Kd.R_below (rM HO_45001.out) hb); have n5_ := Aside0.mk (Kd.R_below (rM HO_45002.out) hb); have n6_ := Aside0.mk (blk_below (kM BK11.out) hb); have n7_ := Aside0.mk (blk_below (kM BK12.out) hb); have n8_ := Aside0.mk (blk_below (kM BK27.out) hb); have n9_ := Aside0.mk (blk_below (kM BK44.out) hb); have n10_ := Aside0.mk (below_step (by first | exact wM HB.out | exact wF HB.out GE11.out | exact wF1 HB.out GE11.out | exact wF HB.out GE12.out | exact wF1 HB.out GE12.out | exact wF HB.out GE27.out | exact wF1 HB.out GE27.out | exact wF HB.out GE44.out | exact wF1 HB.out GE44.out) hb); clear HO_28000; clear HO_28001; clear HO_28002; clear HO_45000; clear HO_45001; clear HO_45002; clear BK11; clear BK12; clear BK27; clear BK44; clear HB; have HO_28000 := n0_; have HO_28001 := n1_; have HO_28002 := n2_; have HO_45000 := n3_; have HO_45001 := n4_; have HO_45002 := n5_; have BK11 := n6_; have BK12 := n7_; have BK27 := n8_; have BK44 := n9_; have HB := n10_; clear n0_ n1_ n2_ n3_ n4_ n5_ n6_ n7_ n8_ n9_ n10_; (try clear hb); (try clear hb2); (try clear hk); (try clear hi)))
                      go_ret
                      exact ⟨by first | rfl | (simp [errW_none, errW_some] <;> rfl) | (simp [*, errW_none, errW_some] <;> rfl), by repeat (first | (with_reducible first | exact HB.out | apply below_alloc | apply pw_below_drewN | apply below_drew1 | refine below_set ?_ GE11.out | refine below_set ?_ GE12.out | refine below_set ?_ GE27.out | refine below_set ?_ GE44.out) | exact HB.out)⟩
                    · rw [if_neg c72] at H
                      have c72b0 : (t43 == 0) = false := beq_eq_false_iff_ne.mpr c72
                      have c72b1 : (t43 != 0) = true := bne_iff_ne.mpr c72
                      obtain rfl := Option.some.inj H
                      go_wp2
                      go_ret
                      exact ⟨by first | rfl | (simp [errW_none, errW_some] <;> rfl) | (simp [*, errW_none, errW_some] <;> rfl), by repeat (first | (with_reducible first | exact HB.out | apply below_alloc | apply pw_below_drewN | apply below_drew1 | refine below_set ?_ GE11.out | refine below_set ?_ GE12.out | refine below_set ?_ GE27.out | refine below_set ?_ GE44.out) | exact HB.out)⟩
                  · replace c71 := Bool.eq_false_iff.mpr c71
                    subst c71
                    have H1 : ((memo_Of.f kj51 t33 t36 t39 t42).bind fun t46 => (if t42 = (l0_2.length : Int) then (if (t46.length : Int) = 1 then (if 0 < (t46.length : Int) then (if (rd t46 0) = (l0_0.length : Int) then (some ((t39.length : Int) == (wrap64 ((l0_2.length : Int) + 1)))) else (some false)) else (none)) else (some false)) else (some false))) = some r := by rw [if_neg (show ¬ (false = true) by decide)] at H; exact H
                    clear H
                    have H := H1
                    clear H1
                    replace H := Option.bind_eq_some_iff.mp H
                    obtain ⟨t46, A820, H⟩ := H
                    replace H : (if t42 = (l0_2.length : Int) then (if (t46.length : Int) = 1 then (if 0 < (t46.length : Int) then (if (rd t46 0) = (l0_0.length : Int) then (some ((t39.length : Int) == (wrap64 ((l0_2.length : Int) + 1)))) else (some false)) else (none)) else (some false)) else (some false)) = some r := H
                    have A82 := Aside0.mk A820
                    clear A820
                    by_cases c83 : t42 = (l0_2.length : Int)
                    · rw [if_pos c83] at H
                      have c83b0 : (t42 == (l0_2.length : Int)) = true := beq_iff_eq.mpr c83
                      have c83b1 : (t42 != (l0_2.length : Int)) = false := bne_eq_false_iff_eq.mpr c83
                      clear c83
                      by_cases c84 : (t46.length : Int) = 1
                      · rw [if_pos c84] at H
                        have c84b0 : ((t46.length : Int) == 1) = true := beq_iff_eq.mpr c84
                        have c84b1 : ((t46.length : Int) != 1) = false := bne_eq_false_iff_eq.mpr c84
                        clear c84
                        by_cases c85 : 0 < (t46.length : Int)
                        · rw [if_pos c85] at H
                          have c85b0 : decide (0 < (t46.length : Int)) = true := decide_eq_true c85
                          have c85b1 : decide (0 < t46.length) = true := decide_eq_true (by omega)
                          clear c85
                          by_cases c86 : (rd t46 0) = (l0_0.length : Int)
                          · rw [if_pos c86] at H
                            have c86b0 : ((rd t46 0) == (l0_0.length : Int)) = true := beq_iff_eq.mpr c86
                            have c86b1 : ((rd t46 0) != (l0_0.length : Int)) = false := bne_eq_false_iff_eq.mpr c86
                            clear c86
                            obtain rfl := Option.some.inj H
                            have hnb87 := NB44_11.out
                            have hnc87 := NB11_44.out
                            have hnb88 := NB44_12.out
                            have hnc88 := NB12_44.out
                            have hnb89 := NB44_27.out
                            have hnc89 := NB27_44.out
                            have hcz90_0 : wc.cell? ⟨gb44, 0, none⟩ = some (.slice Ao63 t33.length co63) := (blk_cell BK44.out 0).trans rfl
                            have hcz90_1 : wc.cell? ⟨gb44, 1, none⟩ = some (.slice Ao68 t36.length co68) := (blk_cell BK44.out 1).trans rfl
                            have hcz90_2 : wc.cell? ⟨gb44, 2, none⟩ = some (.slice Ao69 t39.length co69) := (blk_cell BK44.out 2).trans rfl
                            have hfz90_0 := blk_frozen BK44.out 0
                            have hfz90_1 := blk_frozen BK44.out 1
                            have hfz90_2 := blk_frozen BK44.out 2
                            try go_wp2_with (first | ((with_reducible refine gate_callee (f := 43) rfl ?_); refine goesL_ (some 87) rfl rfl Try.func43 (by kernel_rfl) rfl #[.agg #[.slice Ao63 t33.length co63, .slice Ao68 t36.length co68, .slice Ao69 t39.length co69], .int .i64 t42] rfl (by (try simp only [List.map_toArray, List.map_cons, List.map_nil]); first | done | rfl | (simp only [List.length_drop, List.length_take]; rfl)) ?_; (with_reducible refine (memo_Of.calls kj51 _ _ t33 _ _ t36 _ _ t39 t42 t46 _ ?side1 ?side2 ?side3 ?side4 ?side5 ?side6 A82.out).mono ?_); (case side1 => exact cM (Kd.R_reads' HO_45000.out).2.2); (case side2 => exact (Kd.R_reads' HO_45000.out).2.1); (case side3 => exact cM (Kd.R_reads' HO_45001.out).2.2); (case side4 => exact (Kd.R_reads' HO_45001.out).2.1); (case side5 => exact cM (Kd.R_reads' HO_45002.out).2.2); (case side6 => exact (Kd.R_reads' HO_45002.out).2.1); rintro e w91 ⟨v47, rfl, ho0, hb⟩; refine ⟨_, rfl, ?_⟩; have n0_ := Aside0.mk (Kd.R_below (rM HO_28000.out) hb); have n1_ := Aside0.mk (Kd.R_elder' (rM HO_28001.out) (Kd.R_base ho0) hb); have n2_ := Aside0.mk (Kd.R_elder' (rM HO_28002.out) (Kd.R_base ho0) hb); have n3_ := Aside0.mk (Kd.R_below (rM HO_45000.out) hb); have n4_ := Aside0.mk (Kd.R_elder' (rM HO_45001.out) (Kd.R_base ho0) hb); have n5_ := Aside0.mk (Kd.R_elder' (rM HO_45002.out) (Kd.R_base ho0) hb); have n6_ := Aside0.mk (Kd.R_lower (Kd.R_new' (Kd.R_new' (Kd.R_new' (Kd.R_new' ho0 (Kd.R_lt (rM HO_28001.out))) (Kd.R_lt (rM HO_28002.out))) (Kd.R_lt (rM HO_45001.out))) (Kd.R_lt (rM HO_45002.out))) (below_size (by first | exact wM HB.out | exact wF HB.out GE11.out | exact wF1 HB.out GE11.out | exact wF HB.out GE12.out | exact wF1 HB.out GE12.out | exact wF HB.out GE27.out | exact wF1 HB.out GE27.out | exact wF HB.out GE44.out | exact wF1 HB.out GE44.out))); have n7_ := Aside0.mk (blk_below (kM BK11.out) hb); have n8_ := Aside0.mk (blk_below (kM BK12.out) hb); have n9_ := Aside0.mk (blk_below (kM BK27.out) hb); have n10_ := Aside0.mk (blk_below (kM BK44.out) hb); have n11_ := Aside0.mk (below_step (by first | exact wM HB.out | exact wF HB.out GE11.out | exact wF1 HB.out GE11.out | exact wF HB.out GE12.out | exact wF1 HB.out GE12.out | exact wF HB.out GE27.out | exact wF1 HB.out GE27.out | exact wF HB.out GE44.out | exact wF1 HB.out GE44.out) hb); clear HO_28000; clear HO_28001; clear HO_28002; clear HO_45000; clear HO_45001; clear HO_45002; clear BK11; clear BK12; clear BK27; clear BK44; clear HB; have HO_28000 := n0_; have HO_28001 := n1_; have HO_28002 := n2_; have HO_45000 := n3_; have HO_45001 := n4_; have HO_45002 := n5_; have HO48 := n6_; have BK11 := n7_; have BK12 := n8_; have BK27 := n9_; have BK44 := n10_; have HB := n11_; clear n0_ n1_ n2_ n3_ n4_ n5_ n6_ n7_ n8_ n9_ n10_ n11_; (try clear hb); (try clear hb2); (try clear hk); (try clear hi); (try clear ho0)))
                            have n0_ := Aside0.mk (Kd.R_drew HO_28000.out)
                            have n1_ := Aside0.mk (Kd.R_drew HO_28001.out)
                            have n2_ := Aside0.mk (Kd.R_drew HO_28002.out)
                            have n3_ := Aside0.mk (Kd.R_drew HO_45000.out)
                            have n4_ := Aside0.mk (Kd.R_drew HO_45001.out)
                            have n5_ := Aside0.mk (Kd.R_drew HO_45002.out)
                            have n6_ := Aside0.mk (Kd.R_drew HO48.out)
                            have n7_ := Aside0.mk (blk_drew BK11.out)
                            have n8_ := Aside0.mk (blk_drew BK12.out)
                            have n9_ := Aside0.mk (blk_drew BK27.out)
                            have n10_ := Aside0.mk (blk_drew BK44.out)
                            have n11_ := Aside0.mk (below_drew1 HB.out)
                            clear HO_28000
                            clear HO_28001
                            clear HO_28002
                            clear HO_45000
                            clear HO_45001
                            clear HO_45002
                            clear HO48
                            clear BK11
                            clear BK12
                            clear BK27
                            clear BK44
                            clear HB
                            have HO_28000 := n0_
                            have HO_28001 := n1_
                            have HO_28002 := n2_
                            have HO_45000 := n3_
                            have HO_45001 := n4_
                            have HO_45002 := n5_
                            have HO48 := n6_
                            have BK11 := n7_
                            have BK12 := n8_
                            have BK27 := n9_
                            have BK44 := n10_
                            have HB := n11_
                            clear n0_ n1_ n2_ n3_ n4_ n5_ n6_ n7_ n8_ n9_ n10_ n11_
                            obtain ⟨Ao93, co93, eo93⟩ := Kd.R_slice HO48.out
                            (first | subst eo93 | (injection eo93 with f1_ f2_ f3_; have f4_ := f1_.symm; have f5_ := f3_.symm; clear f1_ f2_ f3_; subst f4_; subst f5_))
                            have p49 : 0 ≤ (0 : Int) := (by omega)
                            have q49 : 0 < (t46.length : Int) := of_decide_eq_true (by first | (with_reducible assumption) | assumption)
                            obtain ⟨ad49, e49, hx49_0⟩ := Kd.at_int (Kd.R_reads' HO48.out).2.2 0 p49 q49
                            cases e49
                            have qi49 : (0 < t46.length) = True := eq_true (by omega)
                            (try rw [show ((0 : Int)).toNat = 0 from rfl] at hx49_0)
                            (try rw [Addr.add_zero'] at hx49_0)
                            replace p49 := eq_true p49
                            replace q49 := eq_true q49
                            refine start_ (n := 30) (S := fun w' => w'.cell? ⟨gb11, 0, none⟩ = some (.slice A0_0 l0_0.length c0_0) ∧ w'.cell? ⟨gb11, 1, none⟩ = some (.slice A0_1 l0_1.length c0_1) ∧ w'.cell? ⟨gb11, 2, none⟩ = some (.slice A0_2 l0_2.length c0_2) ∧ w'.cell? ⟨gb44, 0, none⟩ = some (.slice Ao63 t33.length co63) ∧ w'.cell? ⟨gb44, 1, none⟩ = some (.slice Ao68 t36.length co68) ∧ w'.cell? ⟨gb44, 2, none⟩ = some (.slice Ao69 t39.length co69) ∧ w'.cell? ad49 = some (.int .i64 (rd t46 0))) (ds := []) #[false, false, false, false, false, false, false, false, false, false, false, false, false, false, false, false, false, false, false, false, false, false, false, false, false, false, false, false, false, false] (by kernel_rfl) rfl rfl ⟨(blk_cell BK11.out 0).trans rfl, (blk_cell BK11.out 1).trans rfl, (blk_cell BK11.out 2).trans rfl, (blk_cell BK44.out 0).trans rfl, (blk_cell BK44.out 1).trans rfl, (blk_cell BK44.out 2).trans rfl, hx49_0⟩ (fun hHeld => ?_); refine with_tabW roadbooklaw16_MemoOne.tab13 roadbooklaw16_MemoOne.bits13 (fun HT_ HW_ => ?_)
                            generalize w91.drew = w92 at HO_28000 HO_28001 HO_28002 HO_45000 HO_45001 HO_45002 HO48 BK11 BK12 BK27 BK44 HB hx49_0 hHeld ⊢
                            refine pure_ (i := 0) (N := some 88) (v := ?_) (a' := ?_) #[true, false, false, false, false, false, false, false, false, false, false, false, false, false, false, false, false, false, false, false, false, false, false, false, false, false, false, false, false, false] rfl rfl (any_of HT_.out (by kernel_rfl)) (fun _ _ _ h => h) (Or.inl ⟨by rfl, ?_⟩) ?_ ?_
                            rotate_left
                            · intro w'
                              go_simp
                              with_reducible rfl
                            rotate_left
                            · simp only [Act.put, List.setIfInBounds_toArray, List.set_cons_zero, List.set_cons_succ, i64_w, i32_w]
                              rfl
                            refine pure_ (i := 1) (N := some 89) (v := ?_) (a' := ?_) #[true, true, false, false, false, false, false, false, false, false, false, false, false, false, false, false, false, false, false, false, false, false, false, false, false, false, false, false, false, false] rfl rfl (any_of HT_.out (by kernel_rfl)) (fun _ _ _ h => h) (Or.inl ⟨by rfl, ?_⟩) ?_ ?_
                            rotate_left
                            · intro w'
                              go_simp
                              with_reducible rfl
                            rotate_left
                            · simp only [Act.put, List.setIfInBounds_toArray, List.set_cons_zero, List.set_cons_succ, i64_w, i32_w]
                              rfl
                            refine take_ (i := 2) (N := some 90) (v := ?_) (a' := ?_) #[true, true, true, false, false, false, false, false, false, false, false, false, false, false, false, false, false, false, false, false, false, false, false, false, false, false, false, false, false, false] rfl rfl (take_ofW HT_.out HW_.out (by kernel_rfl)) (fun _ _ _ h => h) (Or.inl ⟨by rfl, ?_⟩) hHeld ?_ ?_
                            rotate_left
                            · rintro w' ⟨s0, s1, s2, s3, s4, s5, s6⟩
                              go_simp
                              with_reducible rfl
                            rotate_left
                            · simp only [Act.put, List.setIfInBounds_toArray, List.set_cons_zero, List.set_cons_succ, i64_w, i32_w]
                              rfl
                            refine pure_ (i := 3) (N := some 91) (v := ?_) (a' := ?_) #[true, true, true, true, false, false, false, false, false, false, false, false, false, false, false, false, false, false, false, false, false, false, false, false, false, false, false, false, false, false] rfl rfl (any_of HT_.out (by kernel_rfl)) (fun _ _ _ h => h) (Or.inl ⟨by rfl, ?_⟩) ?_ ?_
                            rotate_left
                            · intro w'
                              go_simp
                              with_reducible rfl
                            rotate_left
                            · simp only [Act.put, List.setIfInBounds_toArray, List.set_cons_zero, List.set_cons_succ, i64_w, i32_w]
                              rfl
                            refine pure_ (i := 4) (N := some 92) (v := ?_) (a' := ?_) #[true, true, true, true, true, false, false, false, false, false, false, false, false, false, false, false, false, false, false, false, false, false, false, false, false, false, false, false, false, false] rfl rfl (any_of HT_.out (by kernel_rfl)) (fun _ _ _ h => h) (Or.inl ⟨by rfl, ?_⟩) ?_ ?_
                            rotate_left
                            · intro w'
                              go_simp
                              with_reducible rfl
                            rotate_left
                            · simp only [Act.put, List.setIfInBounds_toArray, List.set_cons_zero, List.set_cons_succ, i64_w, i32_w]
                              rfl
                            refine pure_ (i := 5) (N := some 93) (v := ?_) (a' := ?_) #[true, true, true, true, true, true, false, false, false, false, false, false, false, false, false, false, false, false, false, false, false, false, false, false, false, false, false, false, false, false] rfl rfl (any_of HT_.out (by kernel_rfl)) (fun _ _ _ h => h) (Or.inl ⟨by rfl, ?_⟩) ?_ ?_
                            rotate_left
                            · intro w'
                              go_simp
                              with_reducible rfl
                            rotate_left
                            · simp only [Act.put, List.setIfInBounds_toArray, List.set_cons_zero, List.set_cons_succ, i64_w, i32_w]
                              rfl
                            refine pure_ (i := 6) (N := some 94) (v := ?_) (a' := ?_) #[true, true, true, true, true, true, true, false, false, false, false, false, false, false, false, false, false, false, false, false, false, false, false, false, false, false, false, false, false, false] rfl rfl (any_of HT_.out (by kernel_rfl)) (fun _ _ _ h => h) (Or.inl ⟨by rfl, ?_⟩) ?_ ?_
                            rotate_left
                            · intro w'
                              go_simp
                              with_reducible rfl
                            rotate_left
                            · simp only [Act.put, List.setIfInBounds_toArray, List.set_cons_zero, List.set_cons_succ, i64_w, i32_w]
                              rfl
                            refine pure_ (i := 7) (N := some 95) (v := ?_) (a' := ?_) #[true, true, true, true, true, true, true, true, false, false, false, false, false, false, false, false, false, false, false, false, false, false, false, false, false, false, false, false, false, false] rfl rfl (any_of HT_.out (by kernel_rfl)) (fun _ _ _ h => h) (Or.inl ⟨by rfl, ?_⟩) ?_ ?_
                            rotate_left
                            · intro w'
                              go_simp
                              with_reducible rfl
                            rotate_left
                            · simp only [Act.put, List.setIfInBounds_toArray, List.set_cons_zero, List.set_cons_succ, i64_w, i32_w]
                              rfl
                            refine pure_ (i := 8) (N := some 96) (v := ?_) (a' := ?_) #[true, true, true, true, true, true, true, true, true, false, false, false, false, false, false, false, false, false, false, false, false, false, false, false, false, false, false, false, false, false] rfl rfl (any_of HT_.out (by kernel_rfl)) (fun _ _ _ h => h) (Or.inl ⟨by rfl, ?_⟩) ?_ ?_
                            rotate_left
                            · intro w'
                              go_simp
                              with_reducible rfl
                            rotate_left
                            · simp only [Act.put, List.setIfInBounds_toArray, List.set_cons_zero, List.set_cons_succ, i64_w, i32_w]
                              rfl
                            refine pure_ (i := 9) (N := some 97) (v := ?_) (a' := ?_) #[true, true, true, true, true, true, true, true, true, true, false, false, false, false, false, false, false, false, false, false, false, false, false, false, false, false, false, false, false, false] rfl rfl (any_of HT_.out (by kernel_rfl)) (fun _ _ _ h => h) (Or.inl ⟨by rfl, ?_⟩) ?_ ?_
                            rotate_left
                            · intro w'
                              go_simp
                              with_reducible rfl
                            rotate_left
                            · simp only [Act.put, List.setIfInBounds_toArray, List.set_cons_zero, List.set_cons_succ, i64_w, i32_w]
                              rfl
                            refine pure_ (i := 10) (N := some 98) (v := ?_) (a' := ?_) #[true, true, true, true, true, true, true, true, true, true, true, false, false, false, false, false, false, false, false, false, false, false, false, false, false, false, false, false, false, false] rfl rfl (any_of HT_.out (by kernel_rfl)) (fun _ _ _ h => h) (Or.inl ⟨by rfl, ?_⟩) ?_ ?_
                            rotate_left
                            · intro w'
                              go_simp
                              with_reducible rfl
                            rotate_left
                            · simp only [Act.put, List.setIfInBounds_toArray, List.set_cons_zero, List.set_cons_succ, i64_w, i32_w]
                              rfl
                            refine pure_ (i := 11) (N := some 99) (v := ?_) (a' := ?_) #[true, true, true, true, true, true, true, true, true, true, true, true, false, false, false, false, false, false, false, false, false, false, false, false, false, false, false, false, false, false] rfl rfl (any_of HT_.out (by kernel_rfl)) (fun _ _ _ h => h) (Or.inl ⟨by rfl, ?_⟩) ?_ ?_
                            rotate_left
                            · intro w'
                              go_simp
                              with_reducible rfl
                            rotate_left
                            · simp only [Act.put, List.setIfInBounds_toArray, List.set_cons_zero, List.set_cons_succ, i64_w, i32_w]
                              rfl
                            refine pure_ (i := 12) (N := some 100) (v := ?_) (a' := ?_) #[true, true, true, true, true, true, true, true, true, true, true, true, true, false, false, false, false, false, false, false, false, false, false, false, false, false, false, false, false, false] rfl rfl (any_of HT_.out (by kernel_rfl)) (fun _ _ _ h => h) (Or.inl ⟨by rfl, ?_⟩) ?_ ?_
                            rotate_left
                            · intro w'
                              go_simp
                              with_reducible rfl
                            rotate_left
                            · simp only [Act.put, List.setIfInBounds_toArray, List.set_cons_zero, List.set_cons_succ, i64_w, i32_w]
                              rfl
                            refine pure_ (i := 14) (N := some 102) (v := ?_) (a' := ?_) #[true, true, true, true, true, true, true, true, true, true, true, true, true, false, true, false, false, false, false, false, false, false, false, false, false, false, false, false, false, false] rfl rfl (any_of HT_.out (by kernel_rfl)) (fun _ _ _ h => h) (Or.inl ⟨by rfl, ?_⟩) ?_ ?_
                            rotate_left
                            · intro w'
                              go_simp
                              with_reducible rfl
                            rotate_left
                            · simp only [Act.put, List.setIfInBounds_toArray, List.set_cons_zero, List.set_cons_succ, i64_w, i32_w]
                              rfl
                            refine take_ (i := 13) (N := some 101) (v := ?_) (a' := ?_) #[true, true, true, true, true, true, true, true, true, true, true, true, true, true, true, false, false, false, false, false, false, false, false, false, false, false, false, false, false, false] rfl rfl (take_ofW HT_.out HW_.out (by kernel_rfl)) (fun _ _ _ h => h) (Or.inl ⟨by rfl, ?_⟩) hHeld ?_ ?_
                            rotate_left
                            · rintro w' ⟨s0, s1, s2, s3, s4, s5, s6⟩
                              go_simp
                              with_reducible rfl
                            rotate_left
                            · simp only [Act.put, List.setIfInBounds_toArray, List.set_cons_zero, List.set_cons_succ, i64_w, i32_w]
                              rfl
                            refine take_ (i := 15) (N := some 103) (v := ?_) (a' := ?_) #[true, true, true, true, true, true, true, true, true, true, true, true, true, true, true, true, false, false, false, false, false, false, false, false, false, false, false, false, false, false] rfl rfl (take_ofW HT_.out HW_.out (by kernel_rfl)) (fun _ _ _ h => h) (Or.inl ⟨by rfl, ?_⟩) hHeld ?_ ?_
                            rotate_left
                            · rintro w' ⟨s0, s1, s2, s3, s4, s5, s6⟩
                              go_simp
                              with_reducible rfl
                            rotate_left
                            · simp only [Act.put, List.setIfInBounds_toArray, List.set_cons_zero, List.set_cons_succ, i64_w, i32_w]
                              rfl
                            refine pure_ (i := 16) (N := some 104) (v := ?_) (a' := ?_) #[true, true, true, true, true, true, true, true, true, true, true, true, true, true, true, true, true, false, false, false, false, false, false, false, false, false, false, false, false, false] rfl rfl (any_of HT_.out (by kernel_rfl)) (fun _ _ _ h => h) (Or.inl ⟨by rfl, ?_⟩) ?_ ?_
                            rotate_left
                            · intro w'
                              go_simp
                              with_reducible rfl
                            rotate_left
                            · simp only [Act.put, List.setIfInBounds_toArray, List.set_cons_zero, List.set_cons_succ, i64_w, i32_w]
                              rfl
                            refine pure_ (i := 17) (N := some 105) (v := ?_) (a' := ?_) #[true, true, true, true, true, true, true, true, true, true, true, true, true, true, true, true, true, true, false, false, false, false, false, false, false, false, false, false, false, false] rfl rfl (any_of HT_.out (by kernel_rfl)) (fun _ _ _ h => h) (Or.inl ⟨by rfl, ?_⟩) ?_ ?_
                            rotate_left
                            · intro w'
                              go_simp
                              with_reducible rfl
                            rotate_left
                            · simp only [Act.put, List.setIfInBounds_toArray, List.set_cons_zero, List.set_cons_succ, i64_w, i32_w]
                              rfl
                            refine pure_ (i := 18) (N := some 106) (v := ?_) (a' := ?_) #[true, true, true, true, true, true, true, true, true, true, true, true, true, true, true, true, true, true, true, false, false, false, false, false, false, false, false, false, false, false] rfl rfl (any_of HT_.out (by kernel_rfl)) (fun _ _ _ h => h) (Or.inl ⟨by rfl, ?_⟩) ?_ ?_
                            rotate_left
                            · intro w'
                              go_simp
                              with_reducible rfl
                            rotate_left
                            · simp only [Act.put, List.setIfInBounds_toArray, List.set_cons_zero, List.set_cons_succ, i64_w, i32_w]
                              rfl
                            refine pure_ (i := 19) (N := some 107) (v := ?_) (a' := ?_) #[true, true, true, true, true, true, true, true, true, true, true, true, true, true, true, true, true, true, true, true, false, false, false, false, false, false, false, false, false, false] rfl rfl (any_of HT_.out (by kernel_rfl)) (fun _ _ _ h => h) (Or.inl ⟨by rfl, ?_⟩) ?_ ?_
                            rotate_left
                            · intro w'
                              go_simp
                              with_reducible rfl
                            rotate_left
                            · simp only [Act.put, List.setIfInBounds_toArray, List.set_cons_zero, List.set_cons_succ, i64_w, i32_w]
                              rfl
                            refine pure_ (i := 20) (N := some 108) (v := ?_) (a' := ?_) #[true, true, true, true, true, true, true, true, true, true, true, true, true, true, true, true, true, true, true, true, true, false, false, false, false, false, false, false, false, false] rfl rfl (any_of HT_.out (by kernel_rfl)) (fun _ _ _ h => h) (Or.inl ⟨by rfl, ?_⟩) ?_ ?_
                            rotate_left
                            · intro w'
                              go_simp
                              with_reducible rfl
                            rotate_left
                            · simp only [Act.put, List.setIfInBounds_toArray, List.set_cons_zero, List.set_cons_succ, i64_w, i32_w]
                              rfl
                            refine pure_ (i := 23) (N := some 111) (v := ?_) (a' := ?_) #[true, true, true, true, true, true, true, true, true, true, true, true, true, true, true, true, true, true, true, true, true, false, false, true, false, false, false, false, false, false] rfl rfl (any_of HT_.out (by kernel_rfl)) (fun _ _ _ h => h) (Or.inl ⟨by rfl, ?_⟩) ?_ ?_
                            rotate_left
                            · intro w'
                              go_simp
                              with_reducible rfl
                            rotate_left
                            · simp only [Act.put, List.setIfInBounds_toArray, List.set_cons_zero, List.set_cons_succ, i64_w, i32_w]
                              rfl
                            refine take_ (i := 21) (N := some 109) (v := ?_) (a' := ?_) #[true, true, true, true, true, true, true, true, true, true, true, true, true, true, true, true, true, true, true, true, true, true, false, true, false, false, false, false, false, false] rfl rfl (take_ofW HT_.out HW_.out (by kernel_rfl)) (fun _ _ _ h => h) (Or.inl ⟨by rfl, ?_⟩) hHeld ?_ ?_
                            rotate_left
                            · rintro w' ⟨s0, s1, s2, s3, s4, s5, s6⟩
                              go_simp
                              with_reducible rfl
                            rotate_left
                            · simp only [Act.put, List.setIfInBounds_toArray, List.set_cons_zero, List.set_cons_succ, i64_w, i32_w]
                              rfl
                            refine pure_ (i := 22) (N := some 110) (v := ?_) (a' := ?_) #[true, true, true, true, true, true, true, true, true, true, true, true, true, true, true, true, true, true, true, true, true, true, true, true, false, false, false, false, false, false] rfl rfl (any_of HT_.out (by kernel_rfl)) (fun _ _ _ h => h) (Or.inl ⟨by rfl, ?_⟩) ?_ ?_
                            rotate_left
                            · intro w'
                              go_simp
                              with_reducible rfl
                            rotate_left
                            · simp only [Act.put, List.setIfInBounds_toArray, List.set_cons_zero, List.set_cons_succ, i64_w, i32_w]
                              rfl
                            refine take_ (i := 24) (N := some 112) (v := ?_) (a' := ?_) #[true, true, true, true, true, true, true, true, true, true, true, true, true, true, true, true, true, true, true, true, true, true, true, true, true, false, false, false, false, false] rfl rfl (take_ofW HT_.out HW_.out (by kernel_rfl)) (fun _ _ _ h => h) (Or.inl ⟨by rfl, ?_⟩) hHeld ?_ ?_
                            rotate_left
                            · rintro w' ⟨s0, s1, s2, s3, s4, s5, s6⟩
                              go_simp
                              with_reducible rfl
                            rotate_left
                            · simp only [Act.put, List.setIfInBounds_toArray, List.set_cons_zero, List.set_cons_succ, i64_w, i32_w]
                              rfl
                            refine pure_ (i := 25) (N := some 113) (v := ?_) (a' := ?_) #[true, true, true, true, true, true, true, true, true, true, true, true, true, true, true, true, true, true, true, true, true, true, true, true, true, true, false, false, false, false] rfl rfl (any_of HT_.out (by kernel_rfl)) (fun _ _ _ h => h) (Or.inl ⟨by rfl, ?_⟩) ?_ ?_
                            rotate_left
                            · intro w'
                              go_simp
                              with_reducible rfl
                            rotate_left
                            · simp only [Act.put, List.setIfInBounds_toArray, List.set_cons_zero, List.set_cons_succ, i64_w, i32_w]
                              rfl
                            refine pure_ (i := 26) (N := some 114) (v := ?_) (a' := ?_) #[true, true, true, true, true, true, true, true, true, true, true, true, true, true, true, true, true, true, true, true, true, true, true, true, true, true, true, false, false, false] rfl rfl (any_of HT_.out (by kernel_rfl)) (fun _ _ _ h => h) (Or.inl ⟨by rfl, ?_⟩) ?_ ?_
                            rotate_left
                            · intro w'
                              go_simp
                              with_reducible rfl
                            rotate_left
                            · simp only [Act.put, List.setIfInBounds_toArray, List.set_cons_zero, List.set_cons_succ, i64_w, i32_w]
                              rfl
                            refine pure_ (i := 27) (N := some 115) (v := ?_) (a' := ?_) #[true, true, true, true, true, true, true, true, true, true, true, true, true, true, true, true, true, true, true, true, true, true, true, true, true, true, true, true, false, false] rfl rfl (any_of HT_.out (by kernel_rfl)) (fun _ _ _ h => h) (Or.inl ⟨by rfl, ?_⟩) ?_ ?_
                            rotate_left
                            · intro w'
                              go_simp
                              with_reducible rfl
                            rotate_left
                            · simp only [Act.put, List.setIfInBounds_toArray, List.set_cons_zero, List.set_cons_succ, i64_w, i32_w]
                              rfl
                            refine pure_ (i := 28) (N := some 116) (v := ?_) (a' := ?_) #[true, true, true, true, true, true, true, true, true, true, true, true, true, true, true, true, true, true, true, true, true, true, true, true, true, true, true, true, true, false] rfl rfl (any_of HT_.out (by kernel_rfl)) (fun _ _ _ h => h) (Or.inl ⟨by rfl, ?_⟩) ?_ ?_
                            rotate_left
                            · intro w'
                              go_simp
                              with_reducible rfl
                            rotate_left
                            · simp only [Act.put, List.setIfInBounds_toArray, List.set_cons_zero, List.set_cons_succ, i64_w, i32_w]
                              rfl
                            refine pure_ (i := 29) (N := some 8) (v := ?_) (a' := ?_) #[true, true, true, true, true, true, true, true, true, true, true, true, true, true, true, true, true, true, true, true, true, true, true, true, true, true, true, true, true, true] rfl rfl (any_of HT_.out (by kernel_rfl)) (fun _ _ _ h => h) (Or.inl ⟨by rfl, ?_⟩) ?_ ?_
                            rotate_left
                            · intro w'
                              go_simp
                              with_reducible rfl
                            rotate_left
                            · simp only [Act.put, List.setIfInBounds_toArray, List.set_cons_zero, List.set_cons_succ, i64_w, i32_w]
                              rfl
                            refine done_ (done_of HT_.out (by kernel_rfl)) ?_
                            try go_wp2
                            go_ret
                            exact ⟨by first | rfl | (simp [errW_none, errW_some] <;> rfl) | (simp [*, errW_none, errW_some] <;> rfl), by repeat (first | (with_reducible first | exact HB.out | apply below_alloc | apply pw_below_drewN | apply below_drew1 | refine below_set ?_ GE11.out | refine below_set ?_ GE12.out | refine below_set ?_ GE27.out | refine below_set ?_ GE44.out) | exact HB.out)⟩
                          · rw [if_neg c86] at H
                            have c86b0 : ((rd t46 0) == (l0_0.length : Int)) = false := beq_eq_false_iff_ne.mpr c86
                            have c86b1 : ((rd t46 0) != (l0_0.length : Int)) = true := bne_iff_ne.mpr c86
                            exact absurd (HRT.out.symm.trans (Option.some.inj H).symm) (by decide)
                        · rw [if_neg c85] at H
                          exact absurd H (by simp)
                      · rw [if_neg c84] at H
                        have c84b0 : ((t46.length : Int) == 1) = false := beq_eq_false_iff_ne.mpr c84
                        have c84b1 : ((t46.length : Int) != 1) = true := bne_iff_ne.mpr c84
                        exact absurd (HRT.out.symm.trans (Option.some.inj H).symm) (by decide)
                    · rw [if_neg c83] at H
                      have c83b0 : (t42 == (l0_2.length : Int)) = false := beq_eq_false_iff_ne.mpr c83
                      have c83b1 : (t42 != (l0_2.length : Int)) = true := bne_iff_ne.mpr c83
                      exact absurd (HRT.out.symm.trans (Option.some.inj H).symm) (by decide)

end Go.Proofs.Ytkidnomkfdnciaa.All
