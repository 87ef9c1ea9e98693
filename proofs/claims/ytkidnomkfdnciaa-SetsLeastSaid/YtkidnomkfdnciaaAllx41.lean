/- Functions of the program as plain Lean functions, and proofs that the calls do what these say; written for this claim by a program of the session (wip/tools/mkprint.py), checked by Lean. -/
import Derived.Test.YtkidnomkfdnciaaAllx0
import Derived.Test.YtkidnomkfdnciaaAllx4
import Derived.Test.YtkidnomkfdnciaaAllx34
namespace Go.Proofs.Ytkidnomkfdnciaa.All
open Go.RowKit Go.Proofs.YtkidnomkfdnciaaW.PrintWords Go.Proofs.YtkidnomkfdnciaaW.PrintLast Go.Proofs.YtkidnomkfdnciaaW.PrintMore
attribute [local go_sem] max2_int min2_int max_two min_two max_three min_three max_four min_four   -- for this text's walks alone
set_option linter.unusedVariables false
set_option linter.unusedSimpArgs false

/-! ### roadbooklaw15_SetsLeast: function 7 -/
mutual
def roadbooklaw15_SetsLeast.j0 : Nat → List Int → Int → Bool → Bool → Option (Bool)
  | 0, _, _, _, _ => none
  | k + 1, x0, x1, x5, x25 => if x25 = true then (some x5) else ((sets_Find.f k x0 x1).bind fun t268 => ((sets_Roots.f k x0).bind fun t269 => (if t268 < 0 then (roadbooklaw15_SetsLeast.j1 k x0 t269 true) else (if t268 > x1 then (roadbooklaw15_SetsLeast.j1 k x0 t269 true) else ((sets_Find.f k x0 t268).bind fun t272 => (if t272 = t268 then (if (t269.length : Int) = (x0.length : Int) then (if 0 ≤ x1 then (if x1 < (t269.length : Int) then (if (rd t269 x1) = t268 then (if 0 ≤ t268 then (if t268 < (x0.length : Int) then (roadbooklaw15_SetsLeast.j1 k x0 t269 ((rd x0 t268) != t268)) else (none)) else (none)) else (roadbooklaw15_SetsLeast.j1 k x0 t269 true)) else (none)) else (none)) else (roadbooklaw15_SetsLeast.j1 k x0 t269 true)) else (roadbooklaw15_SetsLeast.j1 k x0 t269 true)))))))
def roadbooklaw15_SetsLeast.j1 : Nat → List Int → List Int → Bool → Option (Bool)
  | 0, _, _, _ => none
  | k + 1, x0, x7, x68 => if x68 = true then (some false) else ((sets_May.f k x7).bind fun t275 => (if t275 = true then ((sets_Same.f k x0 x7).bind fun t276 => (if t276 = true then ((sets_Roots.f k x7).bind fun t277 => ((roadbookref02_Ints.f k t277 x7).bind fun t280 => (some t280))) else (some false))) else (some false)))
end
def roadbooklaw15_SetsLeast.f (k : Nat) (l0 : List Int) (a1 : Int) : Option (Bool) := (roadbooklaw15_awake.f k).bind fun t266 => (if t266 = true then ((sets_May.f k l0).bind fun t267 => (if t267 = true then (if a1 < 0 then (roadbooklaw15_SetsLeast.j0 k l0 a1 t266 true) else (roadbooklaw15_SetsLeast.j0 k l0 a1 t266 (decide (a1 ≥ (l0.length : Int))))) else (roadbooklaw15_SetsLeast.j0 k l0 a1 t266 true))) else (roadbooklaw15_SetsLeast.j0 k l0 a1 t266 true))
theorem roadbooklaw15_SetsLeast.mono_l : ∀ k, (∀ y0 y1 y2 y3, LeO (roadbooklaw15_SetsLeast.j0 k y0 y1 y2 y3) (roadbooklaw15_SetsLeast.j0 (k + 1) y0 y1 y2 y3)) ∧ (∀ y0 y1 y2, LeO (roadbooklaw15_SetsLeast.j1 k y0 y1 y2) (roadbooklaw15_SetsLeast.j1 (k + 1) y0 y1 y2))
  | 0 => ⟨fun _ _ _ _ r h => by simp [roadbooklaw15_SetsLeast.j0] at h, fun _ _ _ r h => by simp [roadbooklaw15_SetsLeast.j1] at h⟩
  | k + 1 => by
    obtain ⟨ih0, ih1⟩ := roadbooklaw15_SetsLeast.mono_l k
    refine ⟨?_, ?_⟩
    · intro y0 y1 y2 y3
      unfold roadbooklaw15_SetsLeast.j0
      repeat' first
      | (with_reducible exact ih0 _ _ _ _)
      | (with_reducible exact ih1 _ _ _)
      | (with_reducible exact roadbooklaw15_awake.mono _)
      | (with_reducible exact roadbookref02_Ints.mono _ _ _)
      | (with_reducible exact sets_Find.mono _ _ _)
      | (with_reducible exact sets_May.mono _ _)
      | (with_reducible exact sets_Roots.mono _ _)
      | (with_reducible exact sets_Same.mono _ _ _)
      | (with_reducible exact LeO.refl _)
      | (with_reducible exact LeO.none _)
      | (with_reducible refine LeO.ite ?_ ?_)
      | (with_reducible refine LeO.bind ?_ (fun _ => ?_))
      | exact ih0 _ _ _ _
      | exact ih1 _ _ _
      | exact roadbooklaw15_awake.mono _
      | exact roadbookref02_Ints.mono _ _ _
      | exact sets_Find.mono _ _ _
      | exact sets_May.mono _ _
      | exact sets_Roots.mono _ _
      | exact sets_Same.mono _ _ _
      | exact LeO.none _
      | refine LeO.ite ?_ ?_
      | refine LeO.bind ?_ (fun _ => ?_)
    · intro y0 y1 y2
      unfold roadbooklaw15_SetsLeast.j1
      repeat' first
      | (with_reducible exact ih0 _ _ _ _)
      | (with_reducible exact ih1 _ _ _)
      | (with_reducible exact roadbooklaw15_awake.mono _)
      | (with_reducible exact roadbookref02_Ints.mono _ _ _)
      | (with_reducible exact sets_Find.mono _ _ _)
      | (with_reducible exact sets_May.mono _ _)
      | (with_reducible exact sets_Roots.mono _ _)
      | (with_reducible exact sets_Same.mono _ _ _)
      | (with_reducible exact LeO.refl _)
      | (with_reducible exact LeO.none _)
      | (with_reducible refine LeO.ite ?_ ?_)
      | (with_reducible refine LeO.bind ?_ (fun _ => ?_))
      | exact ih0 _ _ _ _
      | exact ih1 _ _ _
      | exact roadbooklaw15_awake.mono _
      | exact roadbookref02_Ints.mono _ _ _
      | exact sets_Find.mono _ _ _
      | exact sets_May.mono _ _
      | exact sets_Roots.mono _ _
      | exact sets_Same.mono _ _ _
      | exact LeO.none _
      | refine LeO.ite ?_ ?_
      | refine LeO.bind ?_ (fun _ => ?_)
theorem roadbooklaw15_SetsLeast.mono : ∀ a0 a1 k, LeO (roadbooklaw15_SetsLeast.f k a0 a1) (roadbooklaw15_SetsLeast.f (k + 1) a0 a1) := by
  intro a0 a1 k
  obtain ⟨ih0, ih1⟩ := roadbooklaw15_SetsLeast.mono_l k
  unfold roadbooklaw15_SetsLeast.f
  repeat' first
      | (with_reducible exact ih0 _ _ _ _)
      | (with_reducible exact ih1 _ _ _)
      | (with_reducible exact roadbooklaw15_awake.mono _)
      | (with_reducible exact roadbookref02_Ints.mono _ _ _)
      | (with_reducible exact sets_Find.mono _ _ _)
      | (with_reducible exact sets_May.mono _ _)
      | (with_reducible exact sets_Roots.mono _ _)
      | (with_reducible exact sets_Same.mono _ _ _)
      | (with_reducible exact LeO.refl _)
      | (with_reducible exact LeO.none _)
      | (with_reducible refine LeO.ite ?_ ?_)
      | (with_reducible refine LeO.bind ?_ (fun _ => ?_))
      | exact ih0 _ _ _ _
      | exact ih1 _ _ _
      | exact roadbooklaw15_awake.mono _
      | exact roadbookref02_Ints.mono _ _ _
      | exact sets_Find.mono _ _ _
      | exact sets_May.mono _ _
      | exact sets_Roots.mono _ _
      | exact sets_Same.mono _ _ _
      | exact LeO.none _
      | refine LeO.ite ?_ ?_
      | refine LeO.bind ?_ (fun _ => ?_)
set_option maxHeartbeats 8000000 in
set_option maxRecDepth 100000 in
theorem roadbooklaw15_SetsLeast.calls (k : Nat) (A0 : Option Addr) (c0 : Nat) (l0 : List Int) (a1 : Int) (r : Bool) (w : World) (hr0 : Kd.C (Kd.int .i64) w A0 l0.length l0) (hc0 : l0.length ≤ c0) (hrt : r = true) (h : roadbooklaw15_SetsLeast.f k l0 a1 = some r) :
    Calls Try.prog 7 #[.slice A0 l0.length c0, .int .i64 a1] w fun e w' => e = .returned (.bool r) ∧ Below w.heap.size w w' := by
  have HRT := Aside0.mk hrt
  clear hrt
  have HR0 := Aside0.mk hr0
  have HC0 := Aside0.mk hc0
  clear hr0 hc0
  have HB := Aside0.mk (Below.refl w.heap.size w)
  have H : ((roadbooklaw15_awake.f k).bind fun t266 => (if t266 = true then ((sets_May.f k l0).bind fun t267 => (if t267 = true then (if a1 < 0 then (roadbooklaw15_SetsLeast.j0 k l0 a1 t266 true) else (roadbooklaw15_SetsLeast.j0 k l0 a1 t266 (decide (a1 ≥ (l0.length : Int))))) else (roadbooklaw15_SetsLeast.j0 k l0 a1 t266 true))) else (roadbooklaw15_SetsLeast.j0 k l0 a1 t266 true))) = some r := h
  clear h
  replace H := Option.bind_eq_some_iff.mp H
  obtain ⟨t266, A30, H⟩ := H
  replace H : (if t266 = true then ((sets_May.f k l0).bind fun t267 => (if t267 = true then (if a1 < 0 then (roadbooklaw15_SetsLeast.j0 k l0 a1 t266 true) else (roadbooklaw15_SetsLeast.j0 k l0 a1 t266 (decide (a1 ≥ (l0.length : Int))))) else (roadbooklaw15_SetsLeast.j0 k l0 a1 t266 true))) else (roadbooklaw15_SetsLeast.j0 k l0 a1 t266 true)) = some r := H
  have A3 := Aside0.mk A30
  clear A30
  have HC4 := Aside0.mk H
  clear H
  go_enter Try.func7, Try.ntmps7
  go_upto_region 2 with (first | ((with_reducible refine gate_callee (f := 23) rfl ?_); refine goesL_ (some 8) rfl rfl Try.func23 (by kernel_rfl) rfl #[] rfl (by (try simp only [List.map_toArray, List.map_cons, List.map_nil]); first | done | rfl | (simp only [List.length_drop, List.length_take]; rfl)) ?_; (with_reducible refine (roadbooklaw15_awake.calls k  t266 _ A3.out).mono ?_); rintro e w5 ⟨rfl, hb⟩; refine ⟨_, rfl, ?_⟩; have n0_ := Aside0.mk (below_step (by repeat (first | (with_reducible first | exact HB.out | apply below_alloc | apply pw_below_drewN | apply below_drew1) | exact HB.out)) hb); clear HB; have HB := n0_; clear n0_; (try clear hb); (try clear hb2); (try clear hk); (try clear hi)))
  (try simp only [Act.put, List.setIfInBounds_toArray, List.set_cons_zero, List.set_cons_succ])
  go_cut [25] (fun v25 wc => ∃ (kq : Nat) (x25_3 : Bool), v25 = .bool x25_3 ∧ Aside0 (roadbooklaw15_SetsLeast.j0 kq l0 a1 t266 x25_3 = some r) ∧ Aside0 (kq ≤ k) ∧ Aside0 (Below w.heap.size w wc))
  case first =>
    have H := HC4.out
    clear HC4
    by_cases c6 : t266 = true
    · subst c6
      have H1 : ((sets_May.f k l0).bind fun t267 => (if t267 = true then (if a1 < 0 then (roadbooklaw15_SetsLeast.j0 k l0 a1 true true) else (roadbooklaw15_SetsLeast.j0 k l0 a1 true (decide (a1 ≥ (l0.length : Int))))) else (roadbooklaw15_SetsLeast.j0 k l0 a1 true true))) = some r := by rw [if_pos rfl] at H; exact H
      clear H
      have H := H1
      clear H1
      replace H := Option.bind_eq_some_iff.mp H
      obtain ⟨t267, A70, H⟩ := H
      replace H : (if t267 = true then (if a1 < 0 then (roadbooklaw15_SetsLeast.j0 k l0 a1 true true) else (roadbooklaw15_SetsLeast.j0 k l0 a1 true (decide (a1 ≥ (l0.length : Int))))) else (roadbooklaw15_SetsLeast.j0 k l0 a1 true true)) = some r := H
      have A7 := Aside0.mk A70
      clear A70
      by_cases c8 : t267 = true
      · subst c8
        have H1 : (if a1 < 0 then (roadbooklaw15_SetsLeast.j0 k l0 a1 true true) else (roadbooklaw15_SetsLeast.j0 k l0 a1 true (decide (a1 ≥ (l0.length : Int))))) = some r := by rw [if_pos rfl] at H; exact H
        clear H
        have H := H1
        clear H1
        by_cases c9 : a1 < 0
        · rw [if_pos c9] at H
          have c9b0 : decide (a1 < 0) = true := decide_eq_true c9
          clear c9
          (first | rw [c9b0] | (simp only [i64_w, i32_w]; rw [c9b0]) | skip)
          have H' := Aside0.mk H
          clear H
          go_wp2_with (first | (go_at_call 25; (with_reducible refine (sets_May.calls k _ _ l0 true _ ?side1 ?side2 A7.out).mono ?_); (case side1 => repeat (first | exact (Kd.C_below HR0.out HB.out) | (with_reducible refine Kd.C_alloc ?_ _) | (with_reducible refine Kd.C_drewN ?_ _) | (with_reducible refine Kd.C_drew ?_))); (case side2 => exact HC0.out); rintro e w' ⟨rfl, ⟨nd, rfl⟩⟩))
          go_meet
          case rel => exact ⟨_, (true), (by first | rfl | (simp; done) | (simp [*]; done)), H', ⟨by first | omega | exact Nat.le_refl _⟩, ⟨by repeat (first | (with_reducible first | exact HB.out | apply below_alloc | apply pw_below_drewN | apply below_drew1) | exact HB.out)⟩⟩
        · rw [if_neg c9] at H
          have c9b0 : decide (a1 < 0) = false := decide_eq_false c9
          clear c9
          (first | rw [c9b0] | (simp only [i64_w, i32_w]; rw [c9b0]) | skip)
          have H' := Aside0.mk H
          clear H
          go_wp2_with (first | (go_at_call 25; (with_reducible refine (sets_May.calls k _ _ l0 true _ ?side1 ?side2 A7.out).mono ?_); (case side1 => repeat (first | exact (Kd.C_below HR0.out HB.out) | (with_reducible refine Kd.C_alloc ?_ _) | (with_reducible refine Kd.C_drewN ?_ _) | (with_reducible refine Kd.C_drew ?_))); (case side2 => exact HC0.out); rintro e w' ⟨rfl, ⟨nd, rfl⟩⟩))
          go_meet
          case rel => exact ⟨_, (decide (a1 ≥ (l0.length : Int))), (by first | rfl | (simp; done) | (simp [*]; done)), H', ⟨by first | omega | exact Nat.le_refl _⟩, ⟨by repeat (first | (with_reducible first | exact HB.out | apply below_alloc | apply pw_below_drewN | apply below_drew1) | exact HB.out)⟩⟩
      · replace c8 := Bool.eq_false_iff.mpr c8
        subst c8
        have H1 : (roadbooklaw15_SetsLeast.j0 k l0 a1 true true) = some r := by rw [if_neg (show ¬ (false = true) by decide)] at H; exact H
        clear H
        have H := H1
        clear H1
        have H' := Aside0.mk H
        clear H
        go_wp2_with (first | (go_at_call 25; (with_reducible refine (sets_May.calls k _ _ l0 false _ ?side1 ?side2 A7.out).mono ?_); (case side1 => repeat (first | exact (Kd.C_below HR0.out HB.out) | (with_reducible refine Kd.C_alloc ?_ _) | (with_reducible refine Kd.C_drewN ?_ _) | (with_reducible refine Kd.C_drew ?_))); (case side2 => exact HC0.out); rintro e w' ⟨rfl, ⟨nd, rfl⟩⟩))
        go_meet
        case rel => exact ⟨_, (true), (by first | rfl | (simp; done) | (simp [*]; done)), H', ⟨by first | omega | exact Nat.le_refl _⟩, ⟨by repeat (first | (with_reducible first | exact HB.out | apply below_alloc | apply pw_below_drewN | apply below_drew1) | exact HB.out)⟩⟩
    · replace c6 := Bool.eq_false_iff.mpr c6
      subst c6
      have H1 : (roadbooklaw15_SetsLeast.j0 k l0 a1 false true) = some r := by rw [if_neg (show ¬ (false = true) by decide)] at H; exact H
      clear H
      have H := H1
      clear H1
      have H' := Aside0.mk H
      clear H
      go_wp2
      go_meet
      case rel => exact ⟨_, (true), (by first | rfl | (simp; done) | (simp [*]; done)), H', ⟨by first | omega | exact Nat.le_refl _⟩, ⟨by repeat (first | (with_reducible first | exact HB.out | apply below_alloc | apply pw_below_drewN | apply below_drew1) | exact HB.out)⟩⟩
  case rest =>
    clear HC4
    try clear c2
    try clear p2
    try clear c6
    try clear c7
    try clear c8
    try clear c9
    try clear c9b0
    obtain ⟨kq, x25_3, rfl, HA, HJ3, HB⟩ := hcut
    cases kq with
    | zero => exact absurd HA.out (by simp [roadbooklaw15_SetsLeast.j0])
    | succ kj3 =>
      have H := HA.out
      clear HA
      simp only [roadbooklaw15_SetsLeast.j0] at H
      by_cases c10 : x25_3 = true
      · subst c10
        have H1 : (some t266) = some r := by rw [if_pos rfl] at H; exact H
        clear H
        have H := H1
        clear H1
        obtain rfl := Option.some.inj H
        go_wp2
        go_ret
        exact ⟨by first | rfl | (simp [errW_none, errW_some] <;> rfl) | (simp [*, errW_none, errW_some] <;> rfl), by repeat (first | (with_reducible first | exact HB.out | apply below_alloc | apply pw_below_drewN | apply below_drew1) | exact HB.out)⟩
      · replace c10 := Bool.eq_false_iff.mpr c10
        subst c10
        have H1 : ((sets_Find.f kj3 l0 a1).bind fun t268 => ((sets_Roots.f kj3 l0).bind fun t269 => (if t268 < 0 then (roadbooklaw15_SetsLeast.j1 kj3 l0 t269 true) else (if t268 > a1 then (roadbooklaw15_SetsLeast.j1 kj3 l0 t269 true) else ((sets_Find.f kj3 l0 t268).bind fun t272 => (if t272 = t268 then (if (t269.length : Int) = (l0.length : Int) then (if 0 ≤ a1 then (if a1 < (t269.length : Int) then (if (rd t269 a1) = t268 then (if 0 ≤ t268 then (if t268 < (l0.length : Int) then (roadbooklaw15_SetsLeast.j1 kj3 l0 t269 ((rd l0 t268) != t268)) else (none)) else (none)) else (roadbooklaw15_SetsLeast.j1 kj3 l0 t269 true)) else (none)) else (none)) else (roadbooklaw15_SetsLeast.j1 kj3 l0 t269 true)) else (roadbooklaw15_SetsLeast.j1 kj3 l0 t269 true))))))) = some r := by rw [if_neg (show ¬ (false = true) by decide)] at H; exact H
        clear H
        have H := H1
        clear H1
        replace H := Option.bind_eq_some_iff.mp H
        obtain ⟨t268, A110, H⟩ := H
        replace H : ((sets_Roots.f kj3 l0).bind fun t269 => (if t268 < 0 then (roadbooklaw15_SetsLeast.j1 kj3 l0 t269 true) else (if t268 > a1 then (roadbooklaw15_SetsLeast.j1 kj3 l0 t269 true) else ((sets_Find.f kj3 l0 t268).bind fun t272 => (if t272 = t268 then (if (t269.length : Int) = (l0.length : Int) then (if 0 ≤ a1 then (if a1 < (t269.length : Int) then (if (rd t269 a1) = t268 then (if 0 ≤ t268 then (if t268 < (l0.length : Int) then (roadbooklaw15_SetsLeast.j1 kj3 l0 t269 ((rd l0 t268) != t268)) else (none)) else (none)) else (roadbooklaw15_SetsLeast.j1 kj3 l0 t269 true)) else (none)) else (none)) else (roadbooklaw15_SetsLeast.j1 kj3 l0 t269 true)) else (roadbooklaw15_SetsLeast.j1 kj3 l0 t269 true)))))) = some r := H
        have A11 := Aside0.mk A110
        clear A110
        replace H := Option.bind_eq_some_iff.mp H
        obtain ⟨t269, A120, H⟩ := H
        replace H : (if t268 < 0 then (roadbooklaw15_SetsLeast.j1 kj3 l0 t269 true) else (if t268 > a1 then (roadbooklaw15_SetsLeast.j1 kj3 l0 t269 true) else ((sets_Find.f kj3 l0 t268).bind fun t272 => (if t272 = t268 then (if (t269.length : Int) = (l0.length : Int) then (if 0 ≤ a1 then (if a1 < (t269.length : Int) then (if (rd t269 a1) = t268 then (if 0 ≤ t268 then (if t268 < (l0.length : Int) then (roadbooklaw15_SetsLeast.j1 kj3 l0 t269 ((rd l0 t268) != t268)) else (none)) else (none)) else (roadbooklaw15_SetsLeast.j1 kj3 l0 t269 true)) else (none)) else (none)) else (roadbooklaw15_SetsLeast.j1 kj3 l0 t269 true)) else (roadbooklaw15_SetsLeast.j1 kj3 l0 t269 true))))) = some r := H
        have A12 := Aside0.mk A120
        clear A120
        have HC13 := Aside0.mk H
        clear H
        go_upto_region 6 with (first | ((with_reducible refine gate_callee (f := 26) rfl ?_); refine goesL_ (some 29) rfl rfl Try.func26 (by kernel_rfl) rfl #[.slice A0 l0.length c0, .int .i64 a1] rfl (by (try simp only [List.map_toArray, List.map_cons, List.map_nil]); first | done | rfl | (simp only [List.length_drop, List.length_take]; rfl)) ?_; (with_reducible refine (sets_Find.calls kj3 _ _ l0 a1 t268 _ ?side1 ?side2 A11.out).mono ?_); (case side1 => repeat (first | exact (Kd.C_below HR0.out HB.out) | (with_reducible refine Kd.C_alloc ?_ _) | (with_reducible refine Kd.C_drewN ?_ _) | (with_reducible refine Kd.C_drew ?_))); (case side2 => exact HC0.out); rintro e w' ⟨rfl, ⟨nd, rfl⟩⟩; refine ⟨_, rfl, ?_⟩) | ((with_reducible refine gate_callee (f := 33) rfl ?_); refine goesL_ (some 31) rfl rfl Try.func33 (by kernel_rfl) rfl #[.slice A0 l0.length c0] rfl (by (try simp only [List.map_toArray, List.map_cons, List.map_nil]); first | done | rfl | (simp only [List.length_drop, List.length_take]; rfl)) ?_; (with_reducible refine (sets_Roots.calls kj3 _ _ l0 t269 _ ?side1 ?side2 A12.out).mono ?_); (case side1 => repeat (first | exact (Kd.C_below HR0.out (by repeat (first | (with_reducible first | exact HB.out | apply below_alloc | apply pw_below_drewN | apply below_drew1) | exact HB.out))) | (with_reducible refine Kd.C_alloc ?_ _) | (with_reducible refine Kd.C_drewN ?_ _) | (with_reducible refine Kd.C_drew ?_))); (case side2 => exact HC0.out); rintro e w14 ⟨v270, rfl, ho0, hb⟩; refine ⟨_, rfl, ?_⟩; have n0_ := Aside0.mk (Kd.R_lower ho0 (below_size (by repeat (first | (with_reducible first | exact HB.out | apply below_alloc | apply pw_below_drewN | apply below_drew1) | exact HB.out)))); have n1_ := Aside0.mk (below_step (by repeat (first | (with_reducible first | exact HB.out | apply below_alloc | apply pw_below_drewN | apply below_drew1) | exact HB.out)) hb); clear HB; have HO271 := n0_; have HB := n1_; clear n0_ n1_; (try clear hb); (try clear hb2); (try clear hk); (try clear hi); (try clear ho0)))
        (try simp only [Act.put, List.setIfInBounds_toArray, List.set_cons_zero, List.set_cons_succ])
        go_cut [68] (fun v68 wc => ∃ (kq : Nat) (x68_12 : Bool), v68 = .bool x68_12 ∧ Aside0 (roadbooklaw15_SetsLeast.j1 kq l0 t269 x68_12 = some r) ∧ Aside0 (kq ≤ kj3) ∧ Aside0 (Kd.R (Kd.int .i64) 3 wc w.heap.size (fun _ => True) v270 t269) ∧ Aside0 (Below w.heap.size w wc))
        case first =>
          have H := HC13.out
          clear HC13
          by_cases c15 : t268 < 0
          · rw [if_pos c15] at H
            have c15b0 : decide (t268 < 0) = true := decide_eq_true c15
            clear c15
            (first | rw [c15b0] | (simp only [i64_w, i32_w]; rw [c15b0]) | skip)
            have H' := Aside0.mk H
            clear H
            go_wp2
            go_meet
            case rel => exact ⟨_, (true), (by first | rfl | (simp; done) | (simp [*]; done)), H', ⟨by have := HJ3.out; first | omega | exact Nat.le_refl _⟩, ⟨by (with_reducible repeat (first | apply Kd.R_alloc | apply Kd.R_drewN | apply Kd.R_drew)); exact HO271.out⟩, ⟨by repeat (first | (with_reducible first | exact HB.out | apply below_alloc | apply pw_below_drewN | apply below_drew1) | exact HB.out)⟩⟩
          · rw [if_neg c15] at H
            have c15b0 : decide (t268 < 0) = false := decide_eq_false c15
            clear c15
            (first | rw [c15b0] | (simp only [i64_w, i32_w]; rw [c15b0]) | skip)
            by_cases c16 : t268 > a1
            · rw [if_pos c16] at H
              have c16b0 : decide (a1 < t268) = true := decide_eq_true c16
              clear c16
              have H' := Aside0.mk H
              clear H
              go_wp2
              go_meet
              case rel => exact ⟨_, (true), (by first | rfl | (simp; done) | (simp [*]; done)), H', ⟨by have := HJ3.out; first | omega | exact Nat.le_refl _⟩, ⟨by (with_reducible repeat (first | apply Kd.R_alloc | apply Kd.R_drewN | apply Kd.R_drew)); exact HO271.out⟩, ⟨by repeat (first | (with_reducible first | exact HB.out | apply below_alloc | apply pw_below_drewN | apply below_drew1) | exact HB.out)⟩⟩
            · rw [if_neg c16] at H
              have c16b0 : decide (a1 < t268) = false := decide_eq_false c16
              clear c16
              replace H := Option.bind_eq_some_iff.mp H
              obtain ⟨t272, A170, H⟩ := H
              replace H : (if t272 = t268 then (if (t269.length : Int) = (l0.length : Int) then (if 0 ≤ a1 then (if a1 < (t269.length : Int) then (if (rd t269 a1) = t268 then (if 0 ≤ t268 then (if t268 < (l0.length : Int) then (roadbooklaw15_SetsLeast.j1 kj3 l0 t269 ((rd l0 t268) != t268)) else (none)) else (none)) else (roadbooklaw15_SetsLeast.j1 kj3 l0 t269 true)) else (none)) else (none)) else (roadbooklaw15_SetsLeast.j1 kj3 l0 t269 true)) else (roadbooklaw15_SetsLeast.j1 kj3 l0 t269 true)) = some r := H
              have A17 := Aside0.mk A170
              clear A170
              by_cases c18 : t272 = t268
              · rw [if_pos c18] at H
                have c18b0 : (t272 == t268) = true := beq_iff_eq.mpr c18
                have c18b1 : (t272 != t268) = false := bne_eq_false_iff_eq.mpr c18
                clear c18
                by_cases c19 : (t269.length : Int) = (l0.length : Int)
                · rw [if_pos c19] at H
                  have c19b0 : ((t269.length : Int) == (l0.length : Int)) = true := beq_iff_eq.mpr c19
                  have c19b1 : ((t269.length : Int) != (l0.length : Int)) = false := bne_eq_false_iff_eq.mpr c19
                  have c19b2 : (t269.length == l0.length) = true := by first | simpa using c19 | (simp at c19 ⊢; omega)
                  clear c19
                  by_cases c20 : 0 ≤ a1
                  · rw [if_pos c20] at H
                    have c20b0 : decide (0 ≤ a1) = true := decide_eq_true c20
                    clear c20
                    by_cases c21 : a1 < (t269.length : Int)
                    · rw [if_pos c21] at H
                      have c21b0 : decide (a1 < (t269.length : Int)) = true := decide_eq_true c21
                      clear c21
                      by_cases c22 : (rd t269 a1) = t268
                      · rw [if_pos c22] at H
                        have c22b0 : ((rd t269 a1) == t268) = true := beq_iff_eq.mpr c22
                        have c22b1 : ((rd t269 a1) != t268) = false := bne_eq_false_iff_eq.mpr c22
                        clear c22
                        by_cases c23 : 0 ≤ t268
                        · rw [if_pos c23] at H
                          have c23b0 : decide (0 ≤ t268) = true := decide_eq_true c23
                          clear c23
                          by_cases c24 : t268 < (l0.length : Int)
                          · rw [if_pos c24] at H
                            have c24b0 : decide (t268 < (l0.length : Int)) = true := decide_eq_true c24
                            clear c24
                            have H' := Aside0.mk H
                            clear H
                            go_wp2_with (first | (go_at_call 26; (with_reducible refine (sets_Find.calls kj3 _ _ l0 t268 t272 _ ?side1 ?side2 A17.out).mono ?_); (case side1 => repeat (first | exact (Kd.C_below HR0.out HB.out) | (with_reducible refine Kd.C_alloc ?_ _) | (with_reducible refine Kd.C_drewN ?_ _) | (with_reducible refine Kd.C_drew ?_))); (case side2 => exact HC0.out); rintro e w' ⟨rfl, ⟨nd, rfl⟩⟩; obtain ⟨Ao25, co25, eo25⟩ := Kd.R_slice HO271.out; subst eo25; have p273 : 0 ≤ (a1 : Int) := of_decide_eq_true (by first | (with_reducible assumption) | assumption); have q273 : a1 < (t269.length : Int) := of_decide_eq_true (by first | (with_reducible assumption) | assumption); obtain ⟨ad273, e273, hx273_0⟩ := Kd.at_int (Kd.R_reads' HO271.out).2.2 a1 p273 q273; cases e273; replace p273 := eq_true p273; replace q273 := eq_true q273; have p274 : 0 ≤ (t268 : Int) := of_decide_eq_true (by first | (with_reducible assumption) | assumption); have q274 : t268 < (l0.length : Int) := of_decide_eq_true (by first | (with_reducible assumption) | assumption); obtain ⟨ad274, e274, hx274_0⟩ := Kd.at_int HR0.out t268 p274 q274; cases e274; replace hx274_0 := (HB.out.cell (World.block_lt_of_cell? w _ hx274_0)).trans hx274_0; replace p274 := eq_true p274; replace q274 := eq_true q274))
                            go_meet
                            case rel => exact ⟨_, (((rd l0 t268) != t268)), (by first | rfl | (simp; done) | (simp [*]; done)), H', ⟨by have := HJ3.out; first | omega | exact Nat.le_refl _⟩, ⟨by (with_reducible repeat (first | apply Kd.R_alloc | apply Kd.R_drewN | apply Kd.R_drew)); exact HO271.out⟩, ⟨by repeat (first | (with_reducible first | exact HB.out | apply below_alloc | apply pw_below_drewN | apply below_drew1) | exact HB.out)⟩⟩
                          · rw [if_neg c24] at H
                            exact absurd H (by simp)
                        · rw [if_neg c23] at H
                          exact absurd H (by simp)
                      · rw [if_neg c22] at H
                        have c22b0 : ((rd t269 a1) == t268) = false := beq_eq_false_iff_ne.mpr c22
                        have c22b1 : ((rd t269 a1) != t268) = true := bne_iff_ne.mpr c22
                        have H' := Aside0.mk H
                        clear H
                        go_wp2_with (first | (go_at_call 26; (with_reducible refine (sets_Find.calls kj3 _ _ l0 t268 t272 _ ?side1 ?side2 A17.out).mono ?_); (case side1 => repeat (first | exact (Kd.C_below HR0.out HB.out) | (with_reducible refine Kd.C_alloc ?_ _) | (with_reducible refine Kd.C_drewN ?_ _) | (with_reducible refine Kd.C_drew ?_))); (case side2 => exact HC0.out); rintro e w' ⟨rfl, ⟨nd, rfl⟩⟩; obtain ⟨Ao26, co26, eo26⟩ := Kd.R_slice HO271.out; subst eo26; have p273 : 0 ≤ (a1 : Int) := of_decide_eq_true (by first | (with_reducible assumption) | assumption); have q273 : a1 < (t269.length : Int) := of_decide_eq_true (by first | (with_reducible assumption) | assumption); obtain ⟨ad273, e273, hx273_0⟩ := Kd.at_int (Kd.R_reads' HO271.out).2.2 a1 p273 q273; cases e273; replace p273 := eq_true p273; replace q273 := eq_true q273))
                        go_meet
                        case rel => exact ⟨_, (true), (by first | rfl | (simp; done) | (simp [*]; done)), H', ⟨by have := HJ3.out; first | omega | exact Nat.le_refl _⟩, ⟨by (with_reducible repeat (first | apply Kd.R_alloc | apply Kd.R_drewN | apply Kd.R_drew)); exact HO271.out⟩, ⟨by repeat (first | (with_reducible first | exact HB.out | apply below_alloc | apply pw_below_drewN | apply below_drew1) | exact HB.out)⟩⟩
                    · rw [if_neg c21] at H
                      exact absurd H (by simp)
                  · rw [if_neg c20] at H
                    exact absurd H (by simp)
                · rw [if_neg c19] at H
                  have c19b0 : ((t269.length : Int) == (l0.length : Int)) = false := beq_eq_false_iff_ne.mpr c19
                  have c19b1 : ((t269.length : Int) != (l0.length : Int)) = true := bne_iff_ne.mpr c19
                  have c19b2 : (t269.length == l0.length) = false := by first | simpa using c19 | (simp at c19 ⊢; omega)
                  have H' := Aside0.mk H
                  clear H
                  go_wp2_with (first | (go_at_call 26; (with_reducible refine (sets_Find.calls kj3 _ _ l0 t268 t272 _ ?side1 ?side2 A17.out).mono ?_); (case side1 => repeat (first | exact (Kd.C_below HR0.out HB.out) | (with_reducible refine Kd.C_alloc ?_ _) | (with_reducible refine Kd.C_drewN ?_ _) | (with_reducible refine Kd.C_drew ?_))); (case side2 => exact HC0.out); rintro e w' ⟨rfl, ⟨nd, rfl⟩⟩; obtain ⟨Ao27, co27, eo27⟩ := Kd.R_slice HO271.out; subst eo27))
                  go_meet
                  case rel => exact ⟨_, (true), (by first | rfl | (simp; done) | (simp [*]; done)), H', ⟨by have := HJ3.out; first | omega | exact Nat.le_refl _⟩, ⟨by (with_reducible repeat (first | apply Kd.R_alloc | apply Kd.R_drewN | apply Kd.R_drew)); exact HO271.out⟩, ⟨by repeat (first | (with_reducible first | exact HB.out | apply below_alloc | apply pw_below_drewN | apply below_drew1) | exact HB.out)⟩⟩
              · rw [if_neg c18] at H
                have c18b0 : (t272 == t268) = false := beq_eq_false_iff_ne.mpr c18
                have c18b1 : (t272 != t268) = true := bne_iff_ne.mpr c18
                have H' := Aside0.mk H
                clear H
                go_wp2_with (first | (go_at_call 26; (with_reducible refine (sets_Find.calls kj3 _ _ l0 t268 t272 _ ?side1 ?side2 A17.out).mono ?_); (case side1 => repeat (first | exact (Kd.C_below HR0.out HB.out) | (with_reducible refine Kd.C_alloc ?_ _) | (with_reducible refine Kd.C_drewN ?_ _) | (with_reducible refine Kd.C_drew ?_))); (case side2 => exact HC0.out); rintro e w' ⟨rfl, ⟨nd, rfl⟩⟩))
                go_meet
                case rel => exact ⟨_, (true), (by first | rfl | (simp; done) | (simp [*]; done)), H', ⟨by have := HJ3.out; first | omega | exact Nat.le_refl _⟩, ⟨by (with_reducible repeat (first | apply Kd.R_alloc | apply Kd.R_drewN | apply Kd.R_drew)); exact HO271.out⟩, ⟨by repeat (first | (with_reducible first | exact HB.out | apply below_alloc | apply pw_below_drewN | apply below_drew1) | exact HB.out)⟩⟩
        case rest =>
          clear HC13
          try clear c1
          try clear c2
          try clear p2
          try clear q2
          try clear hx2
          try clear c3
          try clear c6
          try clear c7
          try clear c8
          try clear c9
          try clear c9b0
          try clear c10
          try clear c15
          try clear c15b0
          try clear c16
          try clear c16b0
          try clear c18
          try clear c18b0
          try clear c18b1
          try clear c19
          try clear c19b0
          try clear c19b1
          try clear c19b2
          try clear c20
          try clear c20b0
          try clear c21
          try clear c21b0
          try clear c22
          try clear c22b0
          try clear c22b1
          try clear c23
          try clear c23b0
          try clear c24
          try clear c24b0
          try clear c26
          try clear p27
          try clear q27
          try clear hx27
          try clear hx273_0
          try clear hx274_0
          try clear p2
          try clear p273
          try clear p274
          try clear q273
          try clear q274
          obtain ⟨kq, x68_12, rfl, HA, HJ12, HO_7, HB⟩ := hcut
          cases kq with
          | zero => exact absurd HA.out (by simp [roadbooklaw15_SetsLeast.j1])
          | succ kj12 =>
            have H := HA.out
            clear HA
            simp only [roadbooklaw15_SetsLeast.j1] at H
            by_cases c28 : x68_12 = true
            · subst c28
              have H1 : (some false) = some r := by rw [if_pos rfl] at H; exact H
              clear H
              have H := H1
              clear H1
              exact absurd (HRT.out.symm.trans (Option.some.inj H).symm) (by decide)
            · replace c28 := Bool.eq_false_iff.mpr c28
              subst c28
              have H1 : ((sets_May.f kj12 t269).bind fun t275 => (if t275 = true then ((sets_Same.f kj12 l0 t269).bind fun t276 => (if t276 = true then ((sets_Roots.f kj12 t269).bind fun t277 => ((roadbookref02_Ints.f kj12 t277 t269).bind fun t280 => (some t280))) else (some false))) else (some false))) = some r := by rw [if_neg (show ¬ (false = true) by decide)] at H; exact H
              clear H
              have H := H1
              clear H1
              replace H := Option.bind_eq_some_iff.mp H
              obtain ⟨t275, A290, H⟩ := H
              replace H : (if t275 = true then ((sets_Same.f kj12 l0 t269).bind fun t276 => (if t276 = true then ((sets_Roots.f kj12 t269).bind fun t277 => ((roadbookref02_Ints.f kj12 t277 t269).bind fun t280 => (some t280))) else (some false))) else (some false)) = some r := H
              have A29 := Aside0.mk A290
              clear A290
              by_cases c30 : t275 = true
              · subst c30
                have H1 : ((sets_Same.f kj12 l0 t269).bind fun t276 => (if t276 = true then ((sets_Roots.f kj12 t269).bind fun t277 => ((roadbookref02_Ints.f kj12 t277 t269).bind fun t280 => (some t280))) else (some false))) = some r := by rw [if_pos rfl] at H; exact H
                clear H
                have H := H1
                clear H1
                replace H := Option.bind_eq_some_iff.mp H
                obtain ⟨t276, A310, H⟩ := H
                replace H : (if t276 = true then ((sets_Roots.f kj12 t269).bind fun t277 => ((roadbookref02_Ints.f kj12 t277 t269).bind fun t280 => (some t280))) else (some false)) = some r := H
                have A31 := Aside0.mk A310
                clear A310
                by_cases c32 : t276 = true
                · subst c32
                  have H1 : ((sets_Roots.f kj12 t269).bind fun t277 => ((roadbookref02_Ints.f kj12 t277 t269).bind fun t280 => (some t280))) = some r := by rw [if_pos rfl] at H; exact H
                  clear H
                  have H := H1
                  clear H1
                  replace H := Option.bind_eq_some_iff.mp H
                  obtain ⟨t277, A330, H⟩ := H
                  replace H : ((roadbookref02_Ints.f kj12 t277 t269).bind fun t280 => (some t280)) = some r := H
                  have A33 := Aside0.mk A330
                  clear A330
                  replace H := Option.bind_eq_some_iff.mp H
                  obtain ⟨t280, A340, H⟩ := H
                  replace H : (some t280) = some r := H
                  have A34 := Aside0.mk A340
                  clear A340
                  obtain rfl := Option.some.inj H
                  obtain ⟨Ao35, co35, eo35⟩ := Kd.R_slice HO_7.out
                  subst eo35
                  go_wp2_with (first | ((with_reducible refine gate_callee (f := 25) rfl ?_); refine goesL_ (some 70) rfl rfl Try.func25 (by kernel_rfl) rfl #[.slice Ao35 t269.length co35] rfl (by (try simp only [List.map_toArray, List.map_cons, List.map_nil]); first | done | rfl | (simp only [List.length_drop, List.length_take]; rfl)) ?_; (with_reducible refine (sets_May.calls kj12 _ _ t269 true _ ?side1 ?side2 A29.out).mono ?_); (case side1 => repeat (first | exact (Kd.R_reads' HO_7.out).2.2 | (with_reducible refine Kd.C_alloc ?_ _) | (with_reducible refine Kd.C_drewN ?_ _) | (with_reducible refine Kd.C_drew ?_))); (case side2 => exact (Kd.R_reads' HO_7.out).2.1); rintro e w' ⟨rfl, ⟨nd, rfl⟩⟩; refine ⟨_, rfl, ?_⟩) | (go_at_call 36; (with_reducible refine (sets_Same.calls kj12 _ _ l0 _ _ t269 true _ ?side1 ?side2 ?side3 ?side4 A31.out).mono ?_); (case side1 => repeat (first | exact (Kd.C_below HR0.out (by repeat (first | (with_reducible first | exact HB.out | apply below_alloc | apply pw_below_drewN | apply below_drew1) | exact HB.out))) | (with_reducible refine Kd.C_alloc ?_ _) | (with_reducible refine Kd.C_drewN ?_ _) | (with_reducible refine Kd.C_drew ?_))); (case side2 => exact HC0.out); (case side3 => repeat (first | exact (Kd.R_reads' HO_7.out).2.2 | (with_reducible refine Kd.C_alloc ?_ _) | (with_reducible refine Kd.C_drewN ?_ _) | (with_reducible refine Kd.C_drew ?_))); (case side4 => exact (Kd.R_reads' HO_7.out).2.1); rintro e w36 ⟨rfl, hb⟩; have n0_ := Aside0.mk (Kd.R_below (by (with_reducible repeat (first | apply Kd.R_alloc | apply Kd.R_drewN | apply Kd.R_drew)); exact HO_7.out) hb); have n1_ := Aside0.mk (below_step (by repeat (first | (with_reducible first | exact HB.out | apply below_alloc | apply pw_below_drewN | apply below_drew1) | exact HB.out)) hb); clear HO_7; clear HB; have HO_7 := n0_; have HB := n1_; clear n0_ n1_; (try clear hb); (try clear hb2); (try clear hk); (try clear hi)) | (go_at_call 33; (with_reducible refine (sets_Roots.calls kj12 _ _ t269 t277 _ ?side1 ?side2 A33.out).mono ?_); (case side1 => repeat (first | exact (Kd.R_reads' HO_7.out).2.2 | (with_reducible refine Kd.C_alloc ?_ _) | (with_reducible refine Kd.C_drewN ?_ _) | (with_reducible refine Kd.C_drew ?_))); (case side2 => exact (Kd.R_reads' HO_7.out).2.1); rintro e w37 ⟨v278, rfl, ho0, hb⟩; have n0_ := Aside0.mk (Kd.R_elder' (by (with_reducible repeat (first | apply Kd.R_alloc | apply Kd.R_drewN | apply Kd.R_drew)); exact HO_7.out) (Kd.R_base ho0) hb); have n1_ := Aside0.mk (Kd.R_lower (Kd.R_new' ho0 (Kd.R_lt (by (with_reducible repeat (first | apply Kd.R_alloc | apply Kd.R_drewN | apply Kd.R_drew)); exact HO_7.out))) (below_size (by repeat (first | (with_reducible first | exact HB.out | apply below_alloc | apply pw_below_drewN | apply below_drew1) | exact HB.out)))); have n2_ := Aside0.mk (below_step (by repeat (first | (with_reducible first | exact HB.out | apply below_alloc | apply pw_below_drewN | apply below_drew1) | exact HB.out)) hb); clear HO_7; clear HB; have HO_7 := n0_; have HO279 := n1_; have HB := n2_; clear n0_ n1_ n2_; (try clear hb); (try clear hb2); (try clear hk); (try clear hi); (try clear ho0); obtain ⟨Ao38, co38, eo38⟩ := Kd.R_slice HO279.out; subst eo38) | (go_at_call 27; (with_reducible refine (roadbookref02_Ints.calls kj12 _ _ t277 _ _ t269 t280 _ ?side1 ?side2 ?side3 ?side4 A34.out).mono ?_); (case side1 => repeat (first | exact (Kd.R_reads' HO279.out).2.2 | (with_reducible refine Kd.C_alloc ?_ _) | (with_reducible refine Kd.C_drewN ?_ _) | (with_reducible refine Kd.C_drew ?_))); (case side2 => exact (Kd.R_reads' HO279.out).2.1); (case side3 => repeat (first | exact (Kd.R_reads' HO_7.out).2.2 | (with_reducible refine Kd.C_alloc ?_ _) | (with_reducible refine Kd.C_drewN ?_ _) | (with_reducible refine Kd.C_drew ?_))); (case side4 => exact (Kd.R_reads' HO_7.out).2.1); rintro e w' ⟨rfl, ⟨nd, rfl⟩⟩))
                  go_ret
                  exact ⟨by first | rfl | (simp [errW_none, errW_some] <;> rfl) | (simp [*, errW_none, errW_some] <;> rfl), by repeat (first | (with_reducible first | exact HB.out | apply below_alloc | apply pw_below_drewN | apply below_drew1) | exact HB.out)⟩
                · replace c32 := Bool.eq_false_iff.mpr c32
                  subst c32
                  have H1 : (some false) = some r := by rw [if_neg (show ¬ (false = true) by decide)] at H; exact H
                  clear H
                  have H := H1
                  clear H1
                  exact absurd (HRT.out.symm.trans (Option.some.inj H).symm) (by decide)
              · replace c30 := Bool.eq_false_iff.mpr c30
                subst c30
                have H1 : (some false) = some r := by rw [if_neg (show ¬ (false = true) by decide)] at H; exact H
                clear H
                have H := H1
                clear H1
                exact absurd (HRT.out.symm.trans (Option.some.inj H).symm) (by decide)

/-- THE ONE PURE STATEMENT of roadbooklaw15_SetsLeast: yours. -/
def roadbooklaw15_SetsLeast.Pure : Prop := ∀ (l0 : List Int) (a1 : Int), l0.length ≤ maxLen → l0.length * 8 ≤ 140737488351232 → (∀ x ∈ l0, (Lit.int .i64 x).wf = true) → (Lit.int .i64 a1).wf = true → ∃ k, roadbooklaw15_SetsLeast.f k l0 a1 = some true
theorem roadbooklaw15_SetsLeast.walk (P : roadbooklaw15_SetsLeast.Pure) (a0 : Option Addr) (len0 cap0 : Nat) (z0 : List Int) (a1 : Int) (w : World) (w0 : (a0 = none ∧ len0 = 0 ∧ cap0 = 0 ∧ z0 = []) ∨ ∃ x, a0 = some x ∧ len0 ≤ cap0 ∧ cap0 ≤ maxLen ∧ z0.length = cap0 ∧ (∀ i, i < z0.length → w.cell? (x.add i) = some (.int .i64 (z0.getD i 0))) ∧ ∀ n ∈ z0, (Lit.int .i64 n).wf = true) (y0 : len0 * 8 ≤ 140737488351232) (w1 : (Lit.int .i64 a1).wf = true) :
    Calls Try.prog 7 #[.slice a0 len0 cap0, .int .i64 a1] w fun e w' => e = .returned (.bool true) ∧ Below w.heap.size w w' := by
  obtain ⟨l0, rfl, hr0, hm0, hw0, hc0⟩ := ReadsInt.ofRowC w0
  obtain ⟨k, h⟩ := P l0 a1 hm0 y0 hw0 w1
  refine (roadbooklaw15_SetsLeast.calls k _ _ l0 a1 true w (Kd.C_of_reads (d := (0 : Int)) (h1 := fun _ => rfl) hr0) hc0 rfl h).mono ?_
  rintro e w' ⟨rfl, hd⟩
  exact ⟨rfl, hd⟩

end Go.Proofs.Ytkidnomkfdnciaa.All
