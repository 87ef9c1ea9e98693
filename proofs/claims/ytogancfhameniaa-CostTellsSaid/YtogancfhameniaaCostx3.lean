/- Functions of the program as plain Lean functions, and proofs that the calls do what these say; written for this claim by a program of the session (wip/tools/mkprint.py), checked by Lean. -/
import Derived.Test.YtogancfhameniaaCostx0
import Derived.Test.YtogancfhameniaaCostx1
import Derived.Test.YtogancfhameniaaCostx2
namespace Go.Proofs.Ytogancfhameniaa.Cost
open Go.RowKit Go.Proofs.YtogancfhameniaaW.PrintWords Go.Proofs.YtogancfhameniaaW.PrintLast Go.Proofs.YtogancfhameniaaW.PrintMore
attribute [local go_sem] max2_int min2_int max_two min_two max_three min_three max_four min_four   -- for this text's walks alone
set_option linter.unusedVariables false
set_option linter.unusedSimpArgs false

/-! ### roadbooklaw10_CostTells: function 5 -/
mutual
def roadbooklaw10_CostTells.j0 : Nat → List Int → Int → Int → Bool → Bool → Bool → Option (Bool)
  | 0, _, _, _, _, _, _ => none
  | k + 1, x0, x1, x2, x3, x9, x18 => if x18 = true then (some x9) else ((cost_Add.f k x0).bind fun t189 => ((roadbookref10_Add.f k x0).bind fun t190 => (if t189 = t190 then ((cost_Scan.f x1).bind fun t191 => ((roadbookref10_Scan.f x1).bind fun t192 => (if t191 = t192 then ((cost_Nest.f x1 x2).bind fun t193 => ((roadbookref10_Nest.f x1 x2).bind fun t194 => (if t193 = t194 then ((cost_Hash.f k x1 x2).bind fun t195 => ((roadbookref10_Hash.f x1 x2).bind fun t196 => (roadbooklaw10_CostTells.j1 k x1 x2 x3 (t195 == t196)))) else (roadbooklaw10_CostTells.j1 k x1 x2 x3 false)))) else (roadbooklaw10_CostTells.j1 k x1 x2 x3 false)))) else (roadbooklaw10_CostTells.j1 k x1 x2 x3 false))))
def roadbooklaw10_CostTells.j1 : Nat → Int → Int → Bool → Bool → Option (Bool)
  | 0, _, _, _, _ => none
  | k + 1, x1, x2, x3, x10 => if x10 = true then ((cost_Merge.f k x1 x2).bind fun t197 => ((roadbookref10_Merge.f x1 x2).bind fun t198 => (if t197 = t198 then ((cost_Sort.f x1).bind fun t199 => ((roadbookref10_Sort.f k x1).bind fun t200 => (if t199 = t200 then ((cost_Group.f x1 x3).bind fun t201 => ((roadbookref10_Group.f x1 x3).bind fun t202 => (some (t201 == t202)))) else (some false)))) else (some false)))) else (some false)
end
def roadbooklaw10_CostTells.f (k : Nat) (l0 : List Int) (a1 : Int) (a2 : Int) (a3 : Bool) : Option (Bool) := (roadbooklaw10_awake.f k).bind fun t188 => (if t188 = true then (roadbooklaw10_CostTells.j0 k l0 a1 a2 a3 t188 (decide ((l0.length : Int) > 1000))) else (roadbooklaw10_CostTells.j0 k l0 a1 a2 a3 t188 true))
theorem roadbooklaw10_CostTells.mono_l : ∀ k, (∀ y0 y1 y2 y3 y4 y5, LeO (roadbooklaw10_CostTells.j0 k y0 y1 y2 y3 y4 y5) (roadbooklaw10_CostTells.j0 (k + 1) y0 y1 y2 y3 y4 y5)) ∧ (∀ y0 y1 y2 y3, LeO (roadbooklaw10_CostTells.j1 k y0 y1 y2 y3) (roadbooklaw10_CostTells.j1 (k + 1) y0 y1 y2 y3))
  | 0 => ⟨fun _ _ _ _ _ _ r h => by simp [roadbooklaw10_CostTells.j0] at h, fun _ _ _ _ r h => by simp [roadbooklaw10_CostTells.j1] at h⟩
  | k + 1 => by
    obtain ⟨ih0, ih1⟩ := roadbooklaw10_CostTells.mono_l k
    refine ⟨?_, ?_⟩
    · intro y0 y1 y2 y3 y4 y5
      unfold roadbooklaw10_CostTells.j0
      repeat' first
      | (with_reducible exact ih0 _ _ _ _ _ _)
      | (with_reducible exact ih1 _ _ _ _)
      | (with_reducible exact cost_Add.mono _ _)
      | (with_reducible exact cost_Hash.mono _ _ _)
      | (with_reducible exact cost_Merge.mono _ _ _)
      | (with_reducible exact roadbooklaw10_awake.mono _)
      | (with_reducible exact roadbookref10_Add.mono _ _)
      | (with_reducible exact roadbookref10_Sort.mono _ _)
      | (with_reducible exact LeO.refl _)
      | (with_reducible exact LeO.none _)
      | (with_reducible refine LeO.ite ?_ ?_)
      | (with_reducible refine LeO.bind ?_ (fun _ => ?_))
      | exact ih0 _ _ _ _ _ _
      | exact ih1 _ _ _ _
      | exact cost_Add.mono _ _
      | exact cost_Hash.mono _ _ _
      | exact cost_Merge.mono _ _ _
      | exact roadbooklaw10_awake.mono _
      | exact roadbookref10_Add.mono _ _
      | exact roadbookref10_Sort.mono _ _
      | exact LeO.none _
      | refine LeO.ite ?_ ?_
      | refine LeO.bind ?_ (fun _ => ?_)
    · intro y0 y1 y2 y3
      unfold roadbooklaw10_CostTells.j1
      repeat' first
      | (with_reducible exact ih0 _ _ _ _ _ _)
      | (with_reducible exact ih1 _ _ _ _)
      | (with_reducible exact cost_Add.mono _ _)
      | (with_reducible exact cost_Hash.mono _ _ _)
      | (with_reducible exact cost_Merge.mono _ _ _)
      | (with_reducible exact roadbooklaw10_awake.mono _)
      | (with_reducible exact roadbookref10_Add.mono _ _)
      | (with_reducible exact roadbookref10_Sort.mono _ _)
      | (with_reducible exact LeO.refl _)
      | (with_reducible exact LeO.none _)
      | (with_reducible refine LeO.ite ?_ ?_)
      | (with_reducible refine LeO.bind ?_ (fun _ => ?_))
      | exact ih0 _ _ _ _ _ _
      | exact ih1 _ _ _ _
      | exact cost_Add.mono _ _
      | exact cost_Hash.mono _ _ _
      | exact cost_Merge.mono _ _ _
      | exact roadbooklaw10_awake.mono _
      | exact roadbookref10_Add.mono _ _
      | exact roadbookref10_Sort.mono _ _
      | exact LeO.none _
      | refine LeO.ite ?_ ?_
      | refine LeO.bind ?_ (fun _ => ?_)
theorem roadbooklaw10_CostTells.mono : ∀ a0 a1 a2 a3 k, LeO (roadbooklaw10_CostTells.f k a0 a1 a2 a3) (roadbooklaw10_CostTells.f (k + 1) a0 a1 a2 a3) := by
  intro a0 a1 a2 a3 k
  obtain ⟨ih0, ih1⟩ := roadbooklaw10_CostTells.mono_l k
  unfold roadbooklaw10_CostTells.f
  repeat' first
      | (with_reducible exact ih0 _ _ _ _ _ _)
      | (with_reducible exact ih1 _ _ _ _)
      | (with_reducible exact cost_Add.mono _ _)
      | (with_reducible exact cost_Hash.mono _ _ _)
      | (with_reducible exact cost_Merge.mono _ _ _)
      | (with_reducible exact roadbooklaw10_awake.mono _)
      | (with_reducible exact roadbookref10_Add.mono _ _)
      | (with_reducible exact roadbookref10_Sort.mono _ _)
      | (with_reducible exact LeO.refl _)
      | (with_reducible exact LeO.none _)
      | (with_reducible refine LeO.ite ?_ ?_)
      | (with_reducible refine LeO.bind ?_ (fun _ => ?_))
      | exact ih0 _ _ _ _ _ _
      | exact ih1 _ _ _ _
      | exact cost_Add.mono _ _
      | exact cost_Hash.mono _ _ _
      | exact cost_Merge.mono _ _ _
      | exact roadbooklaw10_awake.mono _
      | exact roadbookref10_Add.mono _ _
      | exact roadbookref10_Sort.mono _ _
      | exact LeO.none _
      | refine LeO.ite ?_ ?_
      | refine LeO.bind ?_ (fun _ => ?_)
set_option maxHeartbeats 8000000 in
set_option maxRecDepth 100000 in
theorem roadbooklaw10_CostTells.calls (k : Nat) (A0 : Option Addr) (c0 : Nat) (l0 : List Int) (a1 : Int) (a2 : Int) (a3 : Bool) (r : Bool) (w : World) (hr0 : Kd.C (Kd.int .i64) w A0 l0.length l0) (hc0 : l0.length ≤ c0) (h : roadbooklaw10_CostTells.f k l0 a1 a2 a3 = some r) :
    Calls Try.prog 5 #[.slice A0 l0.length c0, .int .i64 a1, .int .i64 a2, .bool a3] w fun e w' => e = .returned (.bool r) ∧ Below w.heap.size w w' := by
  have HR0 := Aside0.mk hr0
  have HC0 := Aside0.mk hc0
  clear hr0 hc0
  have HB := Aside0.mk (Below.refl w.heap.size w)
  have H : ((roadbooklaw10_awake.f k).bind fun t188 => (if t188 = true then (roadbooklaw10_CostTells.j0 k l0 a1 a2 a3 t188 (decide ((l0.length : Int) > 1000))) else (roadbooklaw10_CostTells.j0 k l0 a1 a2 a3 t188 true))) = some r := h
  clear h
  replace H := Option.bind_eq_some_iff.mp H
  obtain ⟨t188, A50, H⟩ := H
  replace H : (if t188 = true then (roadbooklaw10_CostTells.j0 k l0 a1 a2 a3 t188 (decide ((l0.length : Int) > 1000))) else (roadbooklaw10_CostTells.j0 k l0 a1 a2 a3 t188 true)) = some r := H
  have A5 := Aside0.mk A50
  clear A50
  have HC6 := Aside0.mk H
  clear H
  go_enter Try.func5, Try.ntmps5
  go_upto_region 2 with (first | ((with_reducible refine gate_callee (f := 8) rfl ?_); refine goesL_ (some 11) rfl rfl Try.func8 (by kernel_rfl) rfl #[] rfl (by (try simp only [List.map_toArray, List.map_cons, List.map_nil]); first | done | rfl | (simp only [List.length_drop, List.length_take]; rfl)) ?_; (with_reducible refine (roadbooklaw10_awake.calls k  t188 _ A5.out).mono ?_); rintro e w7 ⟨rfl, hb⟩; refine ⟨_, rfl, ?_⟩; have n0_ := Aside0.mk (below_step (by repeat (first | (with_reducible first | exact HB.out | apply below_alloc | apply pw_below_drewN | apply below_drew1) | exact HB.out)) hb); clear HB; have HB := n0_; clear n0_; (try clear hb); (try clear hb2); (try clear hk); (try clear hi)))
  (try simp only [Act.put, List.setIfInBounds_toArray, List.set_cons_zero, List.set_cons_succ])
  go_cut [18] (fun v18 wc => ∃ (kq : Nat) (x18_5 : Bool), v18 = .bool x18_5 ∧ Aside0 (roadbooklaw10_CostTells.j0 kq l0 a1 a2 a3 t188 x18_5 = some r) ∧ Aside0 (kq ≤ k) ∧ Aside0 (Below w.heap.size w wc))
  case first =>
    have H := HC6.out
    clear HC6
    by_cases c8 : t188 = true
    · subst c8
      have H1 : (roadbooklaw10_CostTells.j0 k l0 a1 a2 a3 true (decide ((l0.length : Int) > 1000))) = some r := by rw [if_pos rfl] at H; exact H
      clear H
      have H := H1
      clear H1
      have H' := Aside0.mk H
      clear H
      go_wp2
      go_meet
      case rel => exact ⟨_, (decide ((l0.length : Int) > 1000)), (by first | rfl | (simp; done) | (simp [*]; done)), H', ⟨by first | omega | exact Nat.le_refl _⟩, ⟨by repeat (first | (with_reducible first | exact HB.out | apply below_alloc | apply pw_below_drewN | apply below_drew1) | exact HB.out)⟩⟩
    · replace c8 := Bool.eq_false_iff.mpr c8
      subst c8
      have H1 : (roadbooklaw10_CostTells.j0 k l0 a1 a2 a3 false true) = some r := by rw [if_neg (show ¬ (false = true) by decide)] at H; exact H
      clear H
      have H := H1
      clear H1
      have H' := Aside0.mk H
      clear H
      go_wp2
      go_meet
      case rel => exact ⟨_, (true), (by first | rfl | (simp; done) | (simp [*]; done)), H', ⟨by first | omega | exact Nat.le_refl _⟩, ⟨by repeat (first | (with_reducible first | exact HB.out | apply below_alloc | apply pw_below_drewN | apply below_drew1) | exact HB.out)⟩⟩
  case rest =>
    clear HC6
    try clear p2
    try clear c5
    try clear c8
    obtain ⟨kq, x18_5, rfl, HA, HJ5, HB⟩ := hcut
    cases kq with
    | zero => exact absurd HA.out (by simp [roadbooklaw10_CostTells.j0])
    | succ kj5 =>
      have H := HA.out
      clear HA
      simp only [roadbooklaw10_CostTells.j0] at H
      by_cases c9 : x18_5 = true
      · subst c9
        have H1 : (some t188) = some r := by rw [if_pos rfl] at H; exact H
        clear H
        have H := H1
        clear H1
        obtain rfl := Option.some.inj H
        go_wp2
        go_ret
        exact ⟨by first | rfl | (simp [errW_none, errW_some] <;> rfl) | (simp [*, errW_none, errW_some] <;> rfl), by repeat (first | (with_reducible first | exact HB.out | apply below_alloc | apply pw_below_drewN | apply below_drew1) | exact HB.out)⟩
      · replace c9 := Bool.eq_false_iff.mpr c9
        subst c9
        have H1 : ((cost_Add.f kj5 l0).bind fun t189 => ((roadbookref10_Add.f kj5 l0).bind fun t190 => (if t189 = t190 then ((cost_Scan.f a1).bind fun t191 => ((roadbookref10_Scan.f a1).bind fun t192 => (if t191 = t192 then ((cost_Nest.f a1 a2).bind fun t193 => ((roadbookref10_Nest.f a1 a2).bind fun t194 => (if t193 = t194 then ((cost_Hash.f kj5 a1 a2).bind fun t195 => ((roadbookref10_Hash.f a1 a2).bind fun t196 => (roadbooklaw10_CostTells.j1 kj5 a1 a2 a3 (t195 == t196)))) else (roadbooklaw10_CostTells.j1 kj5 a1 a2 a3 false)))) else (roadbooklaw10_CostTells.j1 kj5 a1 a2 a3 false)))) else (roadbooklaw10_CostTells.j1 kj5 a1 a2 a3 false)))) = some r := by rw [if_neg (show ¬ (false = true) by decide)] at H; exact H
        clear H
        have H := H1
        clear H1
        have HC10 := Aside0.mk H
        clear H
        go_upto_region 4 with (fail)
        go_cut [10] (fun v10 wc => ∃ (kq : Nat) (x10_9 : Bool), v10 = .bool x10_9 ∧ Aside0 (roadbooklaw10_CostTells.j1 kq a1 a2 a3 x10_9 = some r) ∧ Aside0 (kq ≤ kj5) ∧ Aside0 (Below w.heap.size w wc))
        case first =>
          have H := HC10.out
          clear HC10
          replace H := Option.bind_eq_some_iff.mp H
          obtain ⟨t189, A110, H⟩ := H
          replace H : ((roadbookref10_Add.f kj5 l0).bind fun t190 => (if t189 = t190 then ((cost_Scan.f a1).bind fun t191 => ((roadbookref10_Scan.f a1).bind fun t192 => (if t191 = t192 then ((cost_Nest.f a1 a2).bind fun t193 => ((roadbookref10_Nest.f a1 a2).bind fun t194 => (if t193 = t194 then ((cost_Hash.f kj5 a1 a2).bind fun t195 => ((roadbookref10_Hash.f a1 a2).bind fun t196 => (roadbooklaw10_CostTells.j1 kj5 a1 a2 a3 (t195 == t196)))) else (roadbooklaw10_CostTells.j1 kj5 a1 a2 a3 false)))) else (roadbooklaw10_CostTells.j1 kj5 a1 a2 a3 false)))) else (roadbooklaw10_CostTells.j1 kj5 a1 a2 a3 false))) = some r := H
          have A11 := Aside0.mk A110
          clear A110
          replace H := Option.bind_eq_some_iff.mp H
          obtain ⟨t190, A120, H⟩ := H
          replace H : (if t189 = t190 then ((cost_Scan.f a1).bind fun t191 => ((roadbookref10_Scan.f a1).bind fun t192 => (if t191 = t192 then ((cost_Nest.f a1 a2).bind fun t193 => ((roadbookref10_Nest.f a1 a2).bind fun t194 => (if t193 = t194 then ((cost_Hash.f kj5 a1 a2).bind fun t195 => ((roadbookref10_Hash.f a1 a2).bind fun t196 => (roadbooklaw10_CostTells.j1 kj5 a1 a2 a3 (t195 == t196)))) else (roadbooklaw10_CostTells.j1 kj5 a1 a2 a3 false)))) else (roadbooklaw10_CostTells.j1 kj5 a1 a2 a3 false)))) else (roadbooklaw10_CostTells.j1 kj5 a1 a2 a3 false)) = some r := H
          have A12 := Aside0.mk A120
          clear A120
          by_cases c13 : t189 = t190
          · rw [if_pos c13] at H
            have c13b0 : (t189 == t190) = true := beq_iff_eq.mpr c13
            have c13b1 : (t189 != t190) = false := bne_eq_false_iff_eq.mpr c13
            clear c13
            (first | rw [c13b0] | (simp only [i64_w, i32_w]; rw [c13b0]) | skip)
            replace H := Option.bind_eq_some_iff.mp H
            obtain ⟨t191, A140, H⟩ := H
            replace H : ((roadbookref10_Scan.f a1).bind fun t192 => (if t191 = t192 then ((cost_Nest.f a1 a2).bind fun t193 => ((roadbookref10_Nest.f a1 a2).bind fun t194 => (if t193 = t194 then ((cost_Hash.f kj5 a1 a2).bind fun t195 => ((roadbookref10_Hash.f a1 a2).bind fun t196 => (roadbooklaw10_CostTells.j1 kj5 a1 a2 a3 (t195 == t196)))) else (roadbooklaw10_CostTells.j1 kj5 a1 a2 a3 false)))) else (roadbooklaw10_CostTells.j1 kj5 a1 a2 a3 false))) = some r := H
            have A14 := Aside0.mk A140
            clear A140
            replace H := Option.bind_eq_some_iff.mp H
            obtain ⟨t192, A150, H⟩ := H
            replace H : (if t191 = t192 then ((cost_Nest.f a1 a2).bind fun t193 => ((roadbookref10_Nest.f a1 a2).bind fun t194 => (if t193 = t194 then ((cost_Hash.f kj5 a1 a2).bind fun t195 => ((roadbookref10_Hash.f a1 a2).bind fun t196 => (roadbooklaw10_CostTells.j1 kj5 a1 a2 a3 (t195 == t196)))) else (roadbooklaw10_CostTells.j1 kj5 a1 a2 a3 false)))) else (roadbooklaw10_CostTells.j1 kj5 a1 a2 a3 false)) = some r := H
            have A15 := Aside0.mk A150
            clear A150
            by_cases c16 : t191 = t192
            · rw [if_pos c16] at H
              have c16b0 : (t191 == t192) = true := beq_iff_eq.mpr c16
              have c16b1 : (t191 != t192) = false := bne_eq_false_iff_eq.mpr c16
              clear c16
              replace H := Option.bind_eq_some_iff.mp H
              obtain ⟨t193, A170, H⟩ := H
              replace H : ((roadbookref10_Nest.f a1 a2).bind fun t194 => (if t193 = t194 then ((cost_Hash.f kj5 a1 a2).bind fun t195 => ((roadbookref10_Hash.f a1 a2).bind fun t196 => (roadbooklaw10_CostTells.j1 kj5 a1 a2 a3 (t195 == t196)))) else (roadbooklaw10_CostTells.j1 kj5 a1 a2 a3 false))) = some r := H
              have A17 := Aside0.mk A170
              clear A170
              replace H := Option.bind_eq_some_iff.mp H
              obtain ⟨t194, A180, H⟩ := H
              replace H : (if t193 = t194 then ((cost_Hash.f kj5 a1 a2).bind fun t195 => ((roadbookref10_Hash.f a1 a2).bind fun t196 => (roadbooklaw10_CostTells.j1 kj5 a1 a2 a3 (t195 == t196)))) else (roadbooklaw10_CostTells.j1 kj5 a1 a2 a3 false)) = some r := H
              have A18 := Aside0.mk A180
              clear A180
              by_cases c19 : t193 = t194
              · rw [if_pos c19] at H
                have c19b0 : (t193 == t194) = true := beq_iff_eq.mpr c19
                have c19b1 : (t193 != t194) = false := bne_eq_false_iff_eq.mpr c19
                clear c19
                replace H := Option.bind_eq_some_iff.mp H
                obtain ⟨t195, A200, H⟩ := H
                replace H : ((roadbookref10_Hash.f a1 a2).bind fun t196 => (roadbooklaw10_CostTells.j1 kj5 a1 a2 a3 (t195 == t196))) = some r := H
                have A20 := Aside0.mk A200
                clear A200
                replace H := Option.bind_eq_some_iff.mp H
                obtain ⟨t196, A210, H⟩ := H
                replace H : (roadbooklaw10_CostTells.j1 kj5 a1 a2 a3 (t195 == t196)) = some r := H
                have A21 := Aside0.mk A210
                clear A210
                have H' := Aside0.mk H
                clear H
                go_wp2_with (first | ((with_reducible refine gate_callee (f := 9) rfl ?_); refine goesL_ (some 21) rfl rfl Try.func9 (by kernel_rfl) rfl #[.slice A0 l0.length c0] rfl (by (try simp only [List.map_toArray, List.map_cons, List.map_nil]); first | done | rfl | (simp only [List.length_drop, List.length_take]; rfl)) ?_; (with_reducible refine (cost_Add.calls kj5 _ _ l0 t189 _ ?side1 ?side2 A11.out).mono ?_); (case side1 => repeat (first | exact (Kd.C_below HR0.out HB.out) | (with_reducible refine Kd.C_alloc ?_ _) | (with_reducible refine Kd.C_drewN ?_ _) | (with_reducible refine Kd.C_drew ?_))); (case side2 => exact HC0.out); rintro e w22 ⟨rfl, hb⟩; refine ⟨_, rfl, ?_⟩; have n0_ := Aside0.mk (below_step (by repeat (first | (with_reducible first | exact HB.out | apply below_alloc | apply pw_below_drewN | apply below_drew1) | exact HB.out)) hb); clear HB; have HB := n0_; clear n0_; (try clear hb); (try clear hb2); (try clear hk); (try clear hi)) | ((with_reducible refine gate_callee (f := 11) rfl ?_); refine goesL_ (some 23) rfl rfl Try.func11 (by kernel_rfl) rfl #[.slice A0 l0.length c0] rfl (by (try simp only [List.map_toArray, List.map_cons, List.map_nil]); first | done | rfl | (simp only [List.length_drop, List.length_take]; rfl)) ?_; (with_reducible refine (roadbookref10_Add.calls kj5 _ _ l0 t190 _ ?side1 ?side2 A12.out).mono ?_); (case side1 => repeat (first | exact (Kd.C_below HR0.out HB.out) | (with_reducible refine Kd.C_alloc ?_ _) | (with_reducible refine Kd.C_drewN ?_ _) | (with_reducible refine Kd.C_drew ?_))); (case side2 => exact HC0.out); rintro e w' ⟨rfl, ⟨nd, rfl⟩⟩; refine ⟨_, rfl, ?_⟩) | (go_at_call 12; (with_reducible refine (cost_Scan.calls a1 t191 _ A14.out).mono ?_); rintro e w23 ⟨rfl, hb⟩; have n0_ := Aside0.mk (below_step (by repeat (first | (with_reducible first | exact HB.out | apply below_alloc | apply pw_below_drewN | apply below_drew1) | exact HB.out)) hb); clear HB; have HB := n0_; clear n0_; (try clear hb); (try clear hb2); (try clear hk); (try clear hi)) | (go_at_call 13; (with_reducible refine (roadbookref10_Scan.calls a1 t192 _ A15.out).mono ?_); rintro e w' ⟨rfl, ⟨nd, rfl⟩⟩) | (go_at_call 14; (with_reducible refine (cost_Nest.calls a1 a2 t193 _ A17.out).mono ?_); rintro e w24 ⟨rfl, hb⟩; have n0_ := Aside0.mk (below_step (by repeat (first | (with_reducible first | exact HB.out | apply below_alloc | apply pw_below_drewN | apply below_drew1) | exact HB.out)) hb); clear HB; have HB := n0_; clear n0_; (try clear hb); (try clear hb2); (try clear hk); (try clear hi)) | (go_at_call 15; (with_reducible refine (roadbookref10_Nest.calls a1 a2 t194 _ A18.out).mono ?_); rintro e w' ⟨rfl, ⟨nd, rfl⟩⟩) | (go_at_call 16; (with_reducible refine (cost_Hash.calls kj5 a1 a2 t195 _ A20.out).mono ?_); rintro e w25 ⟨rfl, hb⟩; have n0_ := Aside0.mk (below_step (by repeat (first | (with_reducible first | exact HB.out | apply below_alloc | apply pw_below_drewN | apply below_drew1) | exact HB.out)) hb); clear HB; have HB := n0_; clear n0_; (try clear hb); (try clear hb2); (try clear hk); (try clear hi)) | (go_at_call 17; (with_reducible refine (roadbookref10_Hash.calls a1 a2 t196 _ A21.out).mono ?_); rintro e w' ⟨rfl, ⟨nd, rfl⟩⟩))
                go_meet
                case rel => exact ⟨_, ((t195 == t196)), (by first | rfl | (simp; done) | (simp [*]; done)), H', ⟨by have := HJ5.out; first | omega | exact Nat.le_refl _⟩, ⟨by repeat (first | (with_reducible first | exact HB.out | apply below_alloc | apply pw_below_drewN | apply below_drew1) | exact HB.out)⟩⟩
              · rw [if_neg c19] at H
                have c19b0 : (t193 == t194) = false := beq_eq_false_iff_ne.mpr c19
                have c19b1 : (t193 != t194) = true := bne_iff_ne.mpr c19
                have H' := Aside0.mk H
                clear H
                go_wp2_with (first | ((with_reducible refine gate_callee (f := 9) rfl ?_); refine goesL_ (some 21) rfl rfl Try.func9 (by kernel_rfl) rfl #[.slice A0 l0.length c0] rfl (by (try simp only [List.map_toArray, List.map_cons, List.map_nil]); first | done | rfl | (simp only [List.length_drop, List.length_take]; rfl)) ?_; (with_reducible refine (cost_Add.calls kj5 _ _ l0 t189 _ ?side1 ?side2 A11.out).mono ?_); (case side1 => repeat (first | exact (Kd.C_below HR0.out HB.out) | (with_reducible refine Kd.C_alloc ?_ _) | (with_reducible refine Kd.C_drewN ?_ _) | (with_reducible refine Kd.C_drew ?_))); (case side2 => exact HC0.out); rintro e w26 ⟨rfl, hb⟩; refine ⟨_, rfl, ?_⟩; have n0_ := Aside0.mk (below_step (by repeat (first | (with_reducible first | exact HB.out | apply below_alloc | apply pw_below_drewN | apply below_drew1) | exact HB.out)) hb); clear HB; have HB := n0_; clear n0_; (try clear hb); (try clear hb2); (try clear hk); (try clear hi)) | ((with_reducible refine gate_callee (f := 11) rfl ?_); refine goesL_ (some 23) rfl rfl Try.func11 (by kernel_rfl) rfl #[.slice A0 l0.length c0] rfl (by (try simp only [List.map_toArray, List.map_cons, List.map_nil]); first | done | rfl | (simp only [List.length_drop, List.length_take]; rfl)) ?_; (with_reducible refine (roadbookref10_Add.calls kj5 _ _ l0 t190 _ ?side1 ?side2 A12.out).mono ?_); (case side1 => repeat (first | exact (Kd.C_below HR0.out HB.out) | (with_reducible refine Kd.C_alloc ?_ _) | (with_reducible refine Kd.C_drewN ?_ _) | (with_reducible refine Kd.C_drew ?_))); (case side2 => exact HC0.out); rintro e w' ⟨rfl, ⟨nd, rfl⟩⟩; refine ⟨_, rfl, ?_⟩) | (go_at_call 12; (with_reducible refine (cost_Scan.calls a1 t191 _ A14.out).mono ?_); rintro e w27 ⟨rfl, hb⟩; have n0_ := Aside0.mk (below_step (by repeat (first | (with_reducible first | exact HB.out | apply below_alloc | apply pw_below_drewN | apply below_drew1) | exact HB.out)) hb); clear HB; have HB := n0_; clear n0_; (try clear hb); (try clear hb2); (try clear hk); (try clear hi)) | (go_at_call 13; (with_reducible refine (roadbookref10_Scan.calls a1 t192 _ A15.out).mono ?_); rintro e w' ⟨rfl, ⟨nd, rfl⟩⟩) | (go_at_call 14; (with_reducible refine (cost_Nest.calls a1 a2 t193 _ A17.out).mono ?_); rintro e w28 ⟨rfl, hb⟩; have n0_ := Aside0.mk (below_step (by repeat (first | (with_reducible first | exact HB.out | apply below_alloc | apply pw_below_drewN | apply below_drew1) | exact HB.out)) hb); clear HB; have HB := n0_; clear n0_; (try clear hb); (try clear hb2); (try clear hk); (try clear hi)) | (go_at_call 15; (with_reducible refine (roadbookref10_Nest.calls a1 a2 t194 _ A18.out).mono ?_); rintro e w' ⟨rfl, ⟨nd, rfl⟩⟩))
                go_meet
                case rel => exact ⟨_, (false), (by first | rfl | (simp; done) | (simp [*]; done)), H', ⟨by have := HJ5.out; first | omega | exact Nat.le_refl _⟩, ⟨by repeat (first | (with_reducible first | exact HB.out | apply below_alloc | apply pw_below_drewN | apply below_drew1) | exact HB.out)⟩⟩
            · rw [if_neg c16] at H
              have c16b0 : (t191 == t192) = false := beq_eq_false_iff_ne.mpr c16
              have c16b1 : (t191 != t192) = true := bne_iff_ne.mpr c16
              have H' := Aside0.mk H
              clear H
              go_wp2_with (first | ((with_reducible refine gate_callee (f := 9) rfl ?_); refine goesL_ (some 21) rfl rfl Try.func9 (by kernel_rfl) rfl #[.slice A0 l0.length c0] rfl (by (try simp only [List.map_toArray, List.map_cons, List.map_nil]); first | done | rfl | (simp only [List.length_drop, List.length_take]; rfl)) ?_; (with_reducible refine (cost_Add.calls kj5 _ _ l0 t189 _ ?side1 ?side2 A11.out).mono ?_); (case side1 => repeat (first | exact (Kd.C_below HR0.out HB.out) | (with_reducible refine Kd.C_alloc ?_ _) | (with_reducible refine Kd.C_drewN ?_ _) | (with_reducible refine Kd.C_drew ?_))); (case side2 => exact HC0.out); rintro e w29 ⟨rfl, hb⟩; refine ⟨_, rfl, ?_⟩; have n0_ := Aside0.mk (below_step (by repeat (first | (with_reducible first | exact HB.out | apply below_alloc | apply pw_below_drewN | apply below_drew1) | exact HB.out)) hb); clear HB; have HB := n0_; clear n0_; (try clear hb); (try clear hb2); (try clear hk); (try clear hi)) | ((with_reducible refine gate_callee (f := 11) rfl ?_); refine goesL_ (some 23) rfl rfl Try.func11 (by kernel_rfl) rfl #[.slice A0 l0.length c0] rfl (by (try simp only [List.map_toArray, List.map_cons, List.map_nil]); first | done | rfl | (simp only [List.length_drop, List.length_take]; rfl)) ?_; (with_reducible refine (roadbookref10_Add.calls kj5 _ _ l0 t190 _ ?side1 ?side2 A12.out).mono ?_); (case side1 => repeat (first | exact (Kd.C_below HR0.out HB.out) | (with_reducible refine Kd.C_alloc ?_ _) | (with_reducible refine Kd.C_drewN ?_ _) | (with_reducible refine Kd.C_drew ?_))); (case side2 => exact HC0.out); rintro e w' ⟨rfl, ⟨nd, rfl⟩⟩; refine ⟨_, rfl, ?_⟩) | (go_at_call 12; (with_reducible refine (cost_Scan.calls a1 t191 _ A14.out).mono ?_); rintro e w30 ⟨rfl, hb⟩; have n0_ := Aside0.mk (below_step (by repeat (first | (with_reducible first | exact HB.out | apply below_alloc | apply pw_below_drewN | apply below_drew1) | exact HB.out)) hb); clear HB; have HB := n0_; clear n0_; (try clear hb); (try clear hb2); (try clear hk); (try clear hi)) | (go_at_call 13; (with_reducible refine (roadbookref10_Scan.calls a1 t192 _ A15.out).mono ?_); rintro e w' ⟨rfl, ⟨nd, rfl⟩⟩))
              go_meet
              case rel => exact ⟨_, (false), (by first | rfl | (simp; done) | (simp [*]; done)), H', ⟨by have := HJ5.out; first | omega | exact Nat.le_refl _⟩, ⟨by repeat (first | (with_reducible first | exact HB.out | apply below_alloc | apply pw_below_drewN | apply below_drew1) | exact HB.out)⟩⟩
          · rw [if_neg c13] at H
            have c13b0 : (t189 == t190) = false := beq_eq_false_iff_ne.mpr c13
            have c13b1 : (t189 != t190) = true := bne_iff_ne.mpr c13
            (first | rw [c13b0] | (simp only [i64_w, i32_w]; rw [c13b0]) | skip)
            have H' := Aside0.mk H
            clear H
            go_wp2_with (first | ((with_reducible refine gate_callee (f := 9) rfl ?_); refine goesL_ (some 21) rfl rfl Try.func9 (by kernel_rfl) rfl #[.slice A0 l0.length c0] rfl (by (try simp only [List.map_toArray, List.map_cons, List.map_nil]); first | done | rfl | (simp only [List.length_drop, List.length_take]; rfl)) ?_; (with_reducible refine (cost_Add.calls kj5 _ _ l0 t189 _ ?side1 ?side2 A11.out).mono ?_); (case side1 => repeat (first | exact (Kd.C_below HR0.out HB.out) | (with_reducible refine Kd.C_alloc ?_ _) | (with_reducible refine Kd.C_drewN ?_ _) | (with_reducible refine Kd.C_drew ?_))); (case side2 => exact HC0.out); rintro e w31 ⟨rfl, hb⟩; refine ⟨_, rfl, ?_⟩; have n0_ := Aside0.mk (below_step (by repeat (first | (with_reducible first | exact HB.out | apply below_alloc | apply pw_below_drewN | apply below_drew1) | exact HB.out)) hb); clear HB; have HB := n0_; clear n0_; (try clear hb); (try clear hb2); (try clear hk); (try clear hi)) | ((with_reducible refine gate_callee (f := 11) rfl ?_); refine goesL_ (some 23) rfl rfl Try.func11 (by kernel_rfl) rfl #[.slice A0 l0.length c0] rfl (by (try simp only [List.map_toArray, List.map_cons, List.map_nil]); first | done | rfl | (simp only [List.length_drop, List.length_take]; rfl)) ?_; (with_reducible refine (roadbookref10_Add.calls kj5 _ _ l0 t190 _ ?side1 ?side2 A12.out).mono ?_); (case side1 => repeat (first | exact (Kd.C_below HR0.out HB.out) | (with_reducible refine Kd.C_alloc ?_ _) | (with_reducible refine Kd.C_drewN ?_ _) | (with_reducible refine Kd.C_drew ?_))); (case side2 => exact HC0.out); rintro e w' ⟨rfl, ⟨nd, rfl⟩⟩; refine ⟨_, rfl, ?_⟩))
            go_meet
            case rel => exact ⟨_, (false), (by first | rfl | (simp; done) | (simp [*]; done)), H', ⟨by have := HJ5.out; first | omega | exact Nat.le_refl _⟩, ⟨by repeat (first | (with_reducible first | exact HB.out | apply below_alloc | apply pw_below_drewN | apply below_drew1) | exact HB.out)⟩⟩
        case rest =>
          clear HC10
          try clear c1
          try clear p2
          try clear c5
          try clear c8
          try clear c9
          try clear c11
          try clear c13
          try clear c13b0
          try clear c13b1
          try clear c16
          try clear c16b0
          try clear c16b1
          try clear c19
          try clear c19b0
          try clear c19b1
          try clear p2
          obtain ⟨kq, x10_9, rfl, HA, HJ9, HB⟩ := hcut
          cases kq with
          | zero => exact absurd HA.out (by simp [roadbooklaw10_CostTells.j1])
          | succ kj9 =>
            have H := HA.out
            clear HA
            simp only [roadbooklaw10_CostTells.j1] at H
            by_cases c32 : x10_9 = true
            · subst c32
              have H1 : ((cost_Merge.f kj9 a1 a2).bind fun t197 => ((roadbookref10_Merge.f a1 a2).bind fun t198 => (if t197 = t198 then ((cost_Sort.f a1).bind fun t199 => ((roadbookref10_Sort.f kj9 a1).bind fun t200 => (if t199 = t200 then ((cost_Group.f a1 a3).bind fun t201 => ((roadbookref10_Group.f a1 a3).bind fun t202 => (some (t201 == t202)))) else (some false)))) else (some false)))) = some r := by rw [if_pos rfl] at H; exact H
              clear H
              have H := H1
              clear H1
              replace H := Option.bind_eq_some_iff.mp H
              obtain ⟨t197, A330, H⟩ := H
              replace H : ((roadbookref10_Merge.f a1 a2).bind fun t198 => (if t197 = t198 then ((cost_Sort.f a1).bind fun t199 => ((roadbookref10_Sort.f kj9 a1).bind fun t200 => (if t199 = t200 then ((cost_Group.f a1 a3).bind fun t201 => ((roadbookref10_Group.f a1 a3).bind fun t202 => (some (t201 == t202)))) else (some false)))) else (some false))) = some r := H
              have A33 := Aside0.mk A330
              clear A330
              replace H := Option.bind_eq_some_iff.mp H
              obtain ⟨t198, A340, H⟩ := H
              replace H : (if t197 = t198 then ((cost_Sort.f a1).bind fun t199 => ((roadbookref10_Sort.f kj9 a1).bind fun t200 => (if t199 = t200 then ((cost_Group.f a1 a3).bind fun t201 => ((roadbookref10_Group.f a1 a3).bind fun t202 => (some (t201 == t202)))) else (some false)))) else (some false)) = some r := H
              have A34 := Aside0.mk A340
              clear A340
              by_cases c35 : t197 = t198
              · rw [if_pos c35] at H
                have c35b0 : (t197 == t198) = true := beq_iff_eq.mpr c35
                have c35b1 : (t197 != t198) = false := bne_eq_false_iff_eq.mpr c35
                clear c35
                replace H := Option.bind_eq_some_iff.mp H
                obtain ⟨t199, A360, H⟩ := H
                replace H : ((roadbookref10_Sort.f kj9 a1).bind fun t200 => (if t199 = t200 then ((cost_Group.f a1 a3).bind fun t201 => ((roadbookref10_Group.f a1 a3).bind fun t202 => (some (t201 == t202)))) else (some false))) = some r := H
                have A36 := Aside0.mk A360
                clear A360
                replace H := Option.bind_eq_some_iff.mp H
                obtain ⟨t200, A370, H⟩ := H
                replace H : (if t199 = t200 then ((cost_Group.f a1 a3).bind fun t201 => ((roadbookref10_Group.f a1 a3).bind fun t202 => (some (t201 == t202)))) else (some false)) = some r := H
                have A37 := Aside0.mk A370
                clear A370
                by_cases c38 : t199 = t200
                · rw [if_pos c38] at H
                  have c38b0 : (t199 == t200) = true := beq_iff_eq.mpr c38
                  have c38b1 : (t199 != t200) = false := bne_eq_false_iff_eq.mpr c38
                  clear c38
                  replace H := Option.bind_eq_some_iff.mp H
                  obtain ⟨t201, A390, H⟩ := H
                  replace H : ((roadbookref10_Group.f a1 a3).bind fun t202 => (some (t201 == t202))) = some r := H
                  have A39 := Aside0.mk A390
                  clear A390
                  replace H := Option.bind_eq_some_iff.mp H
                  obtain ⟨t202, A400, H⟩ := H
                  replace H : (some (t201 == t202)) = some r := H
                  have A40 := Aside0.mk A400
                  clear A400
                  obtain rfl := Option.some.inj H
                  go_wp2_with (first | (go_at_call 18; (with_reducible refine (cost_Merge.calls kj9 a1 a2 t197 _ A33.out).mono ?_); rintro e w41 ⟨rfl, hb⟩; have n0_ := Aside0.mk (below_step (by repeat (first | (with_reducible first | exact HB.out | apply below_alloc | apply pw_below_drewN | apply below_drew1) | exact HB.out)) hb); clear HB; have HB := n0_; clear n0_; (try clear hb); (try clear hb2); (try clear hk); (try clear hi)) | (go_at_call 19; (with_reducible refine (roadbookref10_Merge.calls a1 a2 t198 _ A34.out).mono ?_); rintro e w' ⟨rfl, ⟨nd, rfl⟩⟩) | (go_at_call 10; (with_reducible refine (cost_Sort.calls a1 t199 _ A36.out).mono ?_); rintro e w42 ⟨rfl, hb⟩; have n0_ := Aside0.mk (below_step (by repeat (first | (with_reducible first | exact HB.out | apply below_alloc | apply pw_below_drewN | apply below_drew1) | exact HB.out)) hb); clear HB; have HB := n0_; clear n0_; (try clear hb); (try clear hb2); (try clear hk); (try clear hi)) | (go_at_call 20; (with_reducible refine (roadbookref10_Sort.calls kj9 a1 t200 _ A37.out).mono ?_); rintro e w' ⟨rfl, ⟨nd, rfl⟩⟩) | (go_at_call 21; (with_reducible refine (cost_Group.calls a1 a3 t201 _ A39.out).mono ?_); rintro e w43 ⟨rfl, hb⟩; have n0_ := Aside0.mk (below_step (by repeat (first | (with_reducible first | exact HB.out | apply below_alloc | apply pw_below_drewN | apply below_drew1) | exact HB.out)) hb); clear HB; have HB := n0_; clear n0_; (try clear hb); (try clear hb2); (try clear hk); (try clear hi)) | (go_at_call 22; (with_reducible refine (roadbookref10_Group.calls a1 a3 t202 _ A40.out).mono ?_); rintro e w' ⟨rfl, ⟨nd, rfl⟩⟩))
                  go_ret
                  exact ⟨by first | rfl | (simp [errW_none, errW_some] <;> rfl) | (simp [*, errW_none, errW_some] <;> rfl), by repeat (first | (with_reducible first | exact HB.out | apply below_alloc | apply pw_below_drewN | apply below_drew1) | exact HB.out)⟩
                · rw [if_neg c38] at H
                  have c38b0 : (t199 == t200) = false := beq_eq_false_iff_ne.mpr c38
                  have c38b1 : (t199 != t200) = true := bne_iff_ne.mpr c38
                  obtain rfl := Option.some.inj H
                  go_wp2_with (first | (go_at_call 18; (with_reducible refine (cost_Merge.calls kj9 a1 a2 t197 _ A33.out).mono ?_); rintro e w44 ⟨rfl, hb⟩; have n0_ := Aside0.mk (below_step (by repeat (first | (with_reducible first | exact HB.out | apply below_alloc | apply pw_below_drewN | apply below_drew1) | exact HB.out)) hb); clear HB; have HB := n0_; clear n0_; (try clear hb); (try clear hb2); (try clear hk); (try clear hi)) | (go_at_call 19; (with_reducible refine (roadbookref10_Merge.calls a1 a2 t198 _ A34.out).mono ?_); rintro e w' ⟨rfl, ⟨nd, rfl⟩⟩) | (go_at_call 10; (with_reducible refine (cost_Sort.calls a1 t199 _ A36.out).mono ?_); rintro e w45 ⟨rfl, hb⟩; have n0_ := Aside0.mk (below_step (by repeat (first | (with_reducible first | exact HB.out | apply below_alloc | apply pw_below_drewN | apply below_drew1) | exact HB.out)) hb); clear HB; have HB := n0_; clear n0_; (try clear hb); (try clear hb2); (try clear hk); (try clear hi)) | (go_at_call 20; (with_reducible refine (roadbookref10_Sort.calls kj9 a1 t200 _ A37.out).mono ?_); rintro e w' ⟨rfl, ⟨nd, rfl⟩⟩))
                  go_ret
                  exact ⟨by first | rfl | (simp [errW_none, errW_some] <;> rfl) | (simp [*, errW_none, errW_some] <;> rfl), by repeat (first | (with_reducible first | exact HB.out | apply below_alloc | apply pw_below_drewN | apply below_drew1) | exact HB.out)⟩
              · rw [if_neg c35] at H
                have c35b0 : (t197 == t198) = false := beq_eq_false_iff_ne.mpr c35
                have c35b1 : (t197 != t198) = true := bne_iff_ne.mpr c35
                obtain rfl := Option.some.inj H
                go_wp2_with (first | (go_at_call 18; (with_reducible refine (cost_Merge.calls kj9 a1 a2 t197 _ A33.out).mono ?_); rintro e w46 ⟨rfl, hb⟩; have n0_ := Aside0.mk (below_step (by repeat (first | (with_reducible first | exact HB.out | apply below_alloc | apply pw_below_drewN | apply below_drew1) | exact HB.out)) hb); clear HB; have HB := n0_; clear n0_; (try clear hb); (try clear hb2); (try clear hk); (try clear hi)) | (go_at_call 19; (with_reducible refine (roadbookref10_Merge.calls a1 a2 t198 _ A34.out).mono ?_); rintro e w' ⟨rfl, ⟨nd, rfl⟩⟩))
                go_ret
                exact ⟨by first | rfl | (simp [errW_none, errW_some] <;> rfl) | (simp [*, errW_none, errW_some] <;> rfl), by repeat (first | (with_reducible first | exact HB.out | apply below_alloc | apply pw_below_drewN | apply below_drew1) | exact HB.out)⟩
            · replace c32 := Bool.eq_false_iff.mpr c32
              subst c32
              have H1 : (some false) = some r := by rw [if_neg (show ¬ (false = true) by decide)] at H; exact H
              clear H
              have H := H1
              clear H1
              obtain rfl := Option.some.inj H
              go_wp2
              go_ret
              exact ⟨by first | rfl | (simp [errW_none, errW_some] <;> rfl) | (simp [*, errW_none, errW_some] <;> rfl), by repeat (first | (with_reducible first | exact HB.out | apply below_alloc | apply pw_below_drewN | apply below_drew1) | exact HB.out)⟩

/-- THE ONE PURE STATEMENT of roadbooklaw10_CostTells: yours. -/
def roadbooklaw10_CostTells.Pure : Prop := ∀ (l0 : List Int) (a1 : Int) (a2 : Int) (a3 : Bool), l0.length ≤ maxLen → l0.length * 8 ≤ 140737488351232 → (∀ x ∈ l0, (Lit.int .i64 x).wf = true) → (Lit.int .i64 a1).wf = true → (Lit.int .i64 a2).wf = true → ∃ k, roadbooklaw10_CostTells.f k l0 a1 a2 a3 = some true
theorem roadbooklaw10_CostTells.walk (P : roadbooklaw10_CostTells.Pure) (a0 : Option Addr) (len0 cap0 : Nat) (z0 : List Int) (a1 : Int) (a2 : Int) (a3 : Bool) (w : World) (w0 : (a0 = none ∧ len0 = 0 ∧ cap0 = 0 ∧ z0 = []) ∨ ∃ x, a0 = some x ∧ len0 ≤ cap0 ∧ cap0 ≤ maxLen ∧ z0.length = cap0 ∧ (∀ i, i < z0.length → w.cell? (x.add i) = some (.int .i64 (z0.getD i 0))) ∧ ∀ n ∈ z0, (Lit.int .i64 n).wf = true) (y0 : len0 * 8 ≤ 140737488351232) (w1 : (Lit.int .i64 a1).wf = true) (w2 : (Lit.int .i64 a2).wf = true) :
    Calls Try.prog 5 #[.slice a0 len0 cap0, .int .i64 a1, .int .i64 a2, .bool a3] w fun e w' => e = .returned (.bool true) ∧ Below w.heap.size w w' := by
  obtain ⟨l0, rfl, hr0, hm0, hw0, hc0⟩ := ReadsInt.ofRowC w0
  obtain ⟨k, h⟩ := P l0 a1 a2 a3 hm0 y0 hw0 w1 w2
  refine (roadbooklaw10_CostTells.calls k _ _ l0 a1 a2 a3 true w (Kd.C_of_reads (d := (0 : Int)) (h1 := fun _ => rfl) hr0) hc0 h).mono ?_
  rintro e w' ⟨rfl, hd⟩
  exact ⟨rfl, hd⟩

/-! ### roadbooklaw10_CostMore: function 6 -/
mutual
def roadbooklaw10_CostMore.j0 : Nat → Int → Int → Int → Int → Bool → Bool → Bool → Option (Bool)
  | 0, _, _, _, _, _, _, _ => none
  | k + 1, x0, x1, x2, x3, x4, x11, x27 => if x27 = true then (some x11) else ((cost_Scan.f x0).bind fun t204 => ((cost_Nest.f x0 x1).bind fun t205 => ((cost_Hash.f k x0 x1).bind fun t206 => ((cost_Merge.f k x0 x1).bind fun t207 => ((cost_Sort.f x0).bind fun t208 => ((cost_Group.f x0 x4).bind fun t209 => ((cost_Add.f k (([x0, x1] : List Int))).bind fun t213 => ((cost_Scan.f x2).bind fun t217 => ((cost_Nest.f x2 x3).bind fun t218 => ((cost_Hash.f k x2 x3).bind fun t219 => ((cost_Merge.f k x2 x3).bind fun t220 => ((cost_Sort.f x2).bind fun t221 => ((cost_Group.f x2 x4).bind fun t222 => ((cost_Add.f k (([x2, x3] : List Int))).bind fun t226 => (roadbooklaw10_CostMore.l0 k (([t204, t205, t206, t207, t208, t209, t213] : List Int)) (([t217, t218, t219, t220, t221, t222, t226] : List Int)) 0)))))))))))))))
def roadbooklaw10_CostMore.l0 : Nat → List Int → List Int → Int → Option (Bool)
  | 0, _, _, _ => none
  | k + 1, x12, x13, x14 => if x14 < (x12.length : Int) then (if 0 ≤ x14 then (if x14 < (x13.length : Int) then (if (rd x12 x14) > (rd x13 x14) then (some false) else (if (rd x12 x14) < 0 then (some false) else (if (rd x13 x14) > 1125899906842624 then (some false) else (roadbooklaw10_CostMore.l0 k x12 x13 (wrap64 (x14 + 1)))))) else (none)) else (none)) else (some true)
end
def roadbooklaw10_CostMore.f (k : Nat) (a0 : Int) (a1 : Int) (a2 : Int) (a3 : Int) (a4 : Bool) : Option (Bool) := (roadbooklaw10_awake.f k).bind fun t203 => (if t203 = true then (if a0 > a2 then (roadbooklaw10_CostMore.j0 k a0 a1 a2 a3 a4 t203 true) else (roadbooklaw10_CostMore.j0 k a0 a1 a2 a3 a4 t203 (decide (a1 > a3)))) else (roadbooklaw10_CostMore.j0 k a0 a1 a2 a3 a4 t203 true))
theorem roadbooklaw10_CostMore.mono_l : ∀ k, (∀ y0 y1 y2 y3 y4 y5 y6, LeO (roadbooklaw10_CostMore.j0 k y0 y1 y2 y3 y4 y5 y6) (roadbooklaw10_CostMore.j0 (k + 1) y0 y1 y2 y3 y4 y5 y6)) ∧ (∀ y0 y1 y2, LeO (roadbooklaw10_CostMore.l0 k y0 y1 y2) (roadbooklaw10_CostMore.l0 (k + 1) y0 y1 y2))
  | 0 => ⟨fun _ _ _ _ _ _ _ r h => by simp [roadbooklaw10_CostMore.j0] at h, fun _ _ _ r h => by simp [roadbooklaw10_CostMore.l0] at h⟩
  | k + 1 => by
    obtain ⟨ih0, ih1⟩ := roadbooklaw10_CostMore.mono_l k
    refine ⟨?_, ?_⟩
    · intro y0 y1 y2 y3 y4 y5 y6
      unfold roadbooklaw10_CostMore.j0
      repeat' first
      | (with_reducible exact ih0 _ _ _ _ _ _ _)
      | (with_reducible exact ih1 _ _ _)
      | (with_reducible exact cost_Add.mono _ _)
      | (with_reducible exact cost_Hash.mono _ _ _)
      | (with_reducible exact cost_Merge.mono _ _ _)
      | (with_reducible exact roadbooklaw10_awake.mono _)
      | (with_reducible exact LeO.refl _)
      | (with_reducible exact LeO.none _)
      | (with_reducible refine LeO.ite ?_ ?_)
      | (with_reducible refine LeO.bind ?_ (fun _ => ?_))
      | exact ih0 _ _ _ _ _ _ _
      | exact ih1 _ _ _
      | exact cost_Add.mono _ _
      | exact cost_Hash.mono _ _ _
      | exact cost_Merge.mono _ _ _
      | exact roadbooklaw10_awake.mono _
      | exact LeO.none _
      | refine LeO.ite ?_ ?_
      | refine LeO.bind ?_ (fun _ => ?_)
    · intro y0 y1 y2
      unfold roadbooklaw10_CostMore.l0
      repeat' first
      | (with_reducible exact ih0 _ _ _ _ _ _ _)
      | (with_reducible exact ih1 _ _ _)
      | (with_reducible exact cost_Add.mono _ _)
      | (with_reducible exact cost_Hash.mono _ _ _)
      | (with_reducible exact cost_Merge.mono _ _ _)
      | (with_reducible exact roadbooklaw10_awake.mono _)
      | (with_reducible exact LeO.refl _)
      | (with_reducible exact LeO.none _)
      | (with_reducible refine LeO.ite ?_ ?_)
      | (with_reducible refine LeO.bind ?_ (fun _ => ?_))
      | exact ih0 _ _ _ _ _ _ _
      | exact ih1 _ _ _
      | exact cost_Add.mono _ _
      | exact cost_Hash.mono _ _ _
      | exact cost_Merge.mono _ _ _
      | exact roadbooklaw10_awake.mono _
      | exact LeO.none _
      | refine LeO.ite ?_ ?_
      | refine LeO.bind ?_ (fun _ => ?_)
theorem roadbooklaw10_CostMore.mono : ∀ a0 a1 a2 a3 a4 k, LeO (roadbooklaw10_CostMore.f k a0 a1 a2 a3 a4) (roadbooklaw10_CostMore.f (k + 1) a0 a1 a2 a3 a4) := by
  intro a0 a1 a2 a3 a4 k
  obtain ⟨ih0, ih1⟩ := roadbooklaw10_CostMore.mono_l k
  unfold roadbooklaw10_CostMore.f
  repeat' first
      | (with_reducible exact ih0 _ _ _ _ _ _ _)
      | (with_reducible exact ih1 _ _ _)
      | (with_reducible exact cost_Add.mono _ _)
      | (with_reducible exact cost_Hash.mono _ _ _)
      | (with_reducible exact cost_Merge.mono _ _ _)
      | (with_reducible exact roadbooklaw10_awake.mono _)
      | (with_reducible exact LeO.refl _)
      | (with_reducible exact LeO.none _)
      | (with_reducible refine LeO.ite ?_ ?_)
      | (with_reducible refine LeO.bind ?_ (fun _ => ?_))
      | exact ih0 _ _ _ _ _ _ _
      | exact ih1 _ _ _
      | exact cost_Add.mono _ _
      | exact cost_Hash.mono _ _ _
      | exact cost_Merge.mono _ _ _
      | exact roadbooklaw10_awake.mono _
      | exact LeO.none _
      | refine LeO.ite ?_ ?_
      | refine LeO.bind ?_ (fun _ => ?_)
set_option maxHeartbeats 8000000 in
set_option maxRecDepth 100000 in
theorem roadbooklaw10_CostMore.calls (k : Nat) (a0 : Int) (a1 : Int) (a2 : Int) (a3 : Int) (a4 : Bool) (r : Bool) (w : World) (h : roadbooklaw10_CostMore.f k a0 a1 a2 a3 a4 = some r) :
    Calls Try.prog 6 #[.int .i64 a0, .int .i64 a1, .int .i64 a2, .int .i64 a3, .bool a4] w fun e w' => e = .returned (.bool r) ∧ Below w.heap.size w w' := by
  have HB := Aside0.mk (Below.refl w.heap.size w)
  have H : ((roadbooklaw10_awake.f k).bind fun t203 => (if t203 = true then (if a0 > a2 then (roadbooklaw10_CostMore.j0 k a0 a1 a2 a3 a4 t203 true) else (roadbooklaw10_CostMore.j0 k a0 a1 a2 a3 a4 t203 (decide (a1 > a3)))) else (roadbooklaw10_CostMore.j0 k a0 a1 a2 a3 a4 t203 true))) = some r := h
  clear h
  replace H := Option.bind_eq_some_iff.mp H
  obtain ⟨t203, A60, H⟩ := H
  replace H : (if t203 = true then (if a0 > a2 then (roadbooklaw10_CostMore.j0 k a0 a1 a2 a3 a4 t203 true) else (roadbooklaw10_CostMore.j0 k a0 a1 a2 a3 a4 t203 (decide (a1 > a3)))) else (roadbooklaw10_CostMore.j0 k a0 a1 a2 a3 a4 t203 true)) = some r := H
  have A6 := Aside0.mk A60
  clear A60
  have HC7 := Aside0.mk H
  clear H
  go_enter Try.func6, Try.ntmps6
  go_upto_region 2 with (first | (go_at_call 8; (with_reducible refine (roadbooklaw10_awake.calls k  t203 _ A6.out).mono ?_); rintro e w8 ⟨rfl, hb⟩; have n0_ := Aside0.mk (below_step (by repeat (first | (with_reducible first | exact HB.out | apply below_alloc | apply pw_below_drewN | apply below_drew1) | exact HB.out)) hb); clear HB; have HB := n0_; clear n0_; (try clear hb); (try clear hb2); (try clear hk); (try clear hi)))
  repeat (go_quiet (first | (go_at_call 8; (with_reducible refine (roadbooklaw10_awake.calls k  t203 _ A6.out).mono ?_); rintro e w8 ⟨rfl, hb⟩; have n0_ := Aside0.mk (below_step (by repeat (first | (with_reducible first | exact HB.out | apply below_alloc | apply pw_below_drewN | apply below_drew1) | exact HB.out)) hb); clear HB; have HB := n0_; clear n0_; (try clear hb); (try clear hb2); (try clear hk); (try clear hi))); go_upto_region 2 with (first | (go_at_call 8; (with_reducible refine (roadbooklaw10_awake.calls k  t203 _ A6.out).mono ?_); rintro e w8 ⟨rfl, hb⟩; have n0_ := Aside0.mk (below_step (by repeat (first | (with_reducible first | exact HB.out | apply below_alloc | apply pw_below_drewN | apply below_drew1) | exact HB.out)) hb); clear HB; have HB := n0_; clear n0_; (try clear hb); (try clear hb2); (try clear hk); (try clear hi))))
  (try simp only [Act.put, List.setIfInBounds_toArray, List.set_cons_zero, List.set_cons_succ])
  go_cut [27] (fun v27 wc => ∃ (kq : Nat) (x27_6 : Bool), v27 = .bool x27_6 ∧ Aside0 (roadbooklaw10_CostMore.j0 kq a0 a1 a2 a3 a4 t203 x27_6 = some r) ∧ Aside0 (kq ≤ k) ∧ Aside0 (Below w.heap.size w wc))
  case first =>
    have H := HC7.out
    clear HC7
    by_cases c9 : t203 = true
    · subst c9
      have H1 : (if a0 > a2 then (roadbooklaw10_CostMore.j0 k a0 a1 a2 a3 a4 true true) else (roadbooklaw10_CostMore.j0 k a0 a1 a2 a3 a4 true (decide (a1 > a3)))) = some r := by rw [if_pos rfl] at H; exact H
      clear H
      have H := H1
      clear H1
      by_cases c10 : a0 > a2
      · rw [if_pos c10] at H
        have c10b0 : decide (a2 < a0) = true := decide_eq_true c10
        clear c10
        (first | rw [c10b0] | (simp only [i64_w, i32_w]; rw [c10b0]) | skip)
        have H' := Aside0.mk H
        clear H
        go_wp2
        repeat (go_quiet (fail); try go_wp2)
        go_meet
        case rel => exact ⟨_, (true), (by first | rfl | (simp; done) | (simp [*]; done)), H', ⟨by first | omega | exact Nat.le_refl _⟩, ⟨by repeat (first | (with_reducible first | exact HB.out | apply below_alloc | apply pw_below_drewN | apply below_drew1) | exact HB.out)⟩⟩
      · rw [if_neg c10] at H
        have c10b0 : decide (a2 < a0) = false := decide_eq_false c10
        clear c10
        (first | rw [c10b0] | (simp only [i64_w, i32_w]; rw [c10b0]) | skip)
        have H' := Aside0.mk H
        clear H
        go_wp2
        repeat (go_quiet (fail); try go_wp2)
        go_meet
        case rel => exact ⟨_, (decide (a1 > a3)), (by first | rfl | (simp; done) | (simp [*]; done)), H', ⟨by first | omega | exact Nat.le_refl _⟩, ⟨by repeat (first | (with_reducible first | exact HB.out | apply below_alloc | apply pw_below_drewN | apply below_drew1) | exact HB.out)⟩⟩
    · replace c9 := Bool.eq_false_iff.mpr c9
      subst c9
      have H1 : (roadbooklaw10_CostMore.j0 k a0 a1 a2 a3 a4 false true) = some r := by rw [if_neg (show ¬ (false = true) by decide)] at H; exact H
      clear H
      have H := H1
      clear H1
      have H' := Aside0.mk H
      clear H
      go_wp2
      repeat (go_quiet (fail); try go_wp2)
      go_meet
      case rel => exact ⟨_, (true), (by first | rfl | (simp; done) | (simp [*]; done)), H', ⟨by first | omega | exact Nat.le_refl _⟩, ⟨by repeat (first | (with_reducible first | exact HB.out | apply below_alloc | apply pw_below_drewN | apply below_drew1) | exact HB.out)⟩⟩
  case rest =>
    clear HC7
    try clear c1
    try clear p2
    try clear c6
    try clear c9
    try clear c10
    try clear c10b0
    obtain ⟨kq, x27_6, rfl, HA, HJ6, HB⟩ := hcut
    cases kq with
    | zero => exact absurd HA.out (by simp [roadbooklaw10_CostMore.j0])
    | succ kj6 =>
      have H := HA.out
      clear HA
      simp only [roadbooklaw10_CostMore.j0] at H
      by_cases c11 : x27_6 = true
      · subst c11
        have H1 : (some t203) = some r := by rw [if_pos rfl] at H; exact H
        clear H
        have H := H1
        clear H1
        obtain rfl := Option.some.inj H
        go_wp2
        repeat (go_quiet (fail); try go_wp2)
        go_ret
        exact ⟨by first | rfl | (simp [errW_none, errW_some] <;> rfl) | (simp [*, errW_none, errW_some] <;> rfl), by repeat (first | (with_reducible first | exact HB.out | apply below_alloc | apply pw_below_drewN | apply below_drew1) | exact HB.out)⟩
      · replace c11 := Bool.eq_false_iff.mpr c11
        subst c11
        have H1 : ((cost_Scan.f a0).bind fun t204 => ((cost_Nest.f a0 a1).bind fun t205 => ((cost_Hash.f kj6 a0 a1).bind fun t206 => ((cost_Merge.f kj6 a0 a1).bind fun t207 => ((cost_Sort.f a0).bind fun t208 => ((cost_Group.f a0 a4).bind fun t209 => ((cost_Add.f kj6 (([a0, a1] : List Int))).bind fun t213 => ((cost_Scan.f a2).bind fun t217 => ((cost_Nest.f a2 a3).bind fun t218 => ((cost_Hash.f kj6 a2 a3).bind fun t219 => ((cost_Merge.f kj6 a2 a3).bind fun t220 => ((cost_Sort.f a2).bind fun t221 => ((cost_Group.f a2 a4).bind fun t222 => ((cost_Add.f kj6 (([a2, a3] : List Int))).bind fun t226 => (roadbooklaw10_CostMore.l0 kj6 (([t204, t205, t206, t207, t208, t209, t213] : List Int)) (([t217, t218, t219, t220, t221, t222, t226] : List Int)) 0))))))))))))))) = some r := by rw [if_neg (show ¬ (false = true) by decide)] at H; exact H
        clear H
        have H := H1
        clear H1
        replace H := Option.bind_eq_some_iff.mp H
        obtain ⟨t204, A120, H⟩ := H
        replace H : ((cost_Nest.f a0 a1).bind fun t205 => ((cost_Hash.f kj6 a0 a1).bind fun t206 => ((cost_Merge.f kj6 a0 a1).bind fun t207 => ((cost_Sort.f a0).bind fun t208 => ((cost_Group.f a0 a4).bind fun t209 => ((cost_Add.f kj6 (([a0, a1] : List Int))).bind fun t213 => ((cost_Scan.f a2).bind fun t217 => ((cost_Nest.f a2 a3).bind fun t218 => ((cost_Hash.f kj6 a2 a3).bind fun t219 => ((cost_Merge.f kj6 a2 a3).bind fun t220 => ((cost_Sort.f a2).bind fun t221 => ((cost_Group.f a2 a4).bind fun t222 => ((cost_Add.f kj6 (([a2, a3] : List Int))).bind fun t226 => (roadbooklaw10_CostMore.l0 kj6 (([t204, t205, t206, t207, t208, t209, t213] : List Int)) (([t217, t218, t219, t220, t221, t222, t226] : List Int)) 0)))))))))))))) = some r := H
        have A12 := Aside0.mk A120
        clear A120
        replace H := Option.bind_eq_some_iff.mp H
        obtain ⟨t205, A130, H⟩ := H
        replace H : ((cost_Hash.f kj6 a0 a1).bind fun t206 => ((cost_Merge.f kj6 a0 a1).bind fun t207 => ((cost_Sort.f a0).bind fun t208 => ((cost_Group.f a0 a4).bind fun t209 => ((cost_Add.f kj6 (([a0, a1] : List Int))).bind fun t213 => ((cost_Scan.f a2).bind fun t217 => ((cost_Nest.f a2 a3).bind fun t218 => ((cost_Hash.f kj6 a2 a3).bind fun t219 => ((cost_Merge.f kj6 a2 a3).bind fun t220 => ((cost_Sort.f a2).bind fun t221 => ((cost_Group.f a2 a4).bind fun t222 => ((cost_Add.f kj6 (([a2, a3] : List Int))).bind fun t226 => (roadbooklaw10_CostMore.l0 kj6 (([t204, t205, t206, t207, t208, t209, t213] : List Int)) (([t217, t218, t219, t220, t221, t222, t226] : List Int)) 0))))))))))))) = some r := H
        have A13 := Aside0.mk A130
        clear A130
        replace H := Option.bind_eq_some_iff.mp H
        obtain ⟨t206, A140, H⟩ := H
        replace H : ((cost_Merge.f kj6 a0 a1).bind fun t207 => ((cost_Sort.f a0).bind fun t208 => ((cost_Group.f a0 a4).bind fun t209 => ((cost_Add.f kj6 (([a0, a1] : List Int))).bind fun t213 => ((cost_Scan.f a2).bind fun t217 => ((cost_Nest.f a2 a3).bind fun t218 => ((cost_Hash.f kj6 a2 a3).bind fun t219 => ((cost_Merge.f kj6 a2 a3).bind fun t220 => ((cost_Sort.f a2).bind fun t221 => ((cost_Group.f a2 a4).bind fun t222 => ((cost_Add.f kj6 (([a2, a3] : List Int))).bind fun t226 => (roadbooklaw10_CostMore.l0 kj6 (([t204, t205, t206, t207, t208, t209, t213] : List Int)) (([t217, t218, t219, t220, t221, t222, t226] : List Int)) 0)))))))))))) = some r := H
        have A14 := Aside0.mk A140
        clear A140
        replace H := Option.bind_eq_some_iff.mp H
        obtain ⟨t207, A150, H⟩ := H
        replace H : ((cost_Sort.f a0).bind fun t208 => ((cost_Group.f a0 a4).bind fun t209 => ((cost_Add.f kj6 (([a0, a1] : List Int))).bind fun t213 => ((cost_Scan.f a2).bind fun t217 => ((cost_Nest.f a2 a3).bind fun t218 => ((cost_Hash.f kj6 a2 a3).bind fun t219 => ((cost_Merge.f kj6 a2 a3).bind fun t220 => ((cost_Sort.f a2).bind fun t221 => ((cost_Group.f a2 a4).bind fun t222 => ((cost_Add.f kj6 (([a2, a3] : List Int))).bind fun t226 => (roadbooklaw10_CostMore.l0 kj6 (([t204, t205, t206, t207, t208, t209, t213] : List Int)) (([t217, t218, t219, t220, t221, t222, t226] : List Int)) 0))))))))))) = some r := H
        have A15 := Aside0.mk A150
        clear A150
        replace H := Option.bind_eq_some_iff.mp H
        obtain ⟨t208, A160, H⟩ := H
        replace H : ((cost_Group.f a0 a4).bind fun t209 => ((cost_Add.f kj6 (([a0, a1] : List Int))).bind fun t213 => ((cost_Scan.f a2).bind fun t217 => ((cost_Nest.f a2 a3).bind fun t218 => ((cost_Hash.f kj6 a2 a3).bind fun t219 => ((cost_Merge.f kj6 a2 a3).bind fun t220 => ((cost_Sort.f a2).bind fun t221 => ((cost_Group.f a2 a4).bind fun t222 => ((cost_Add.f kj6 (([a2, a3] : List Int))).bind fun t226 => (roadbooklaw10_CostMore.l0 kj6 (([t204, t205, t206, t207, t208, t209, t213] : List Int)) (([t217, t218, t219, t220, t221, t222, t226] : List Int)) 0)))))))))) = some r := H
        have A16 := Aside0.mk A160
        clear A160
        replace H := Option.bind_eq_some_iff.mp H
        obtain ⟨t209, A170, H⟩ := H
        replace H : ((cost_Add.f kj6 (([a0, a1] : List Int))).bind fun t213 => ((cost_Scan.f a2).bind fun t217 => ((cost_Nest.f a2 a3).bind fun t218 => ((cost_Hash.f kj6 a2 a3).bind fun t219 => ((cost_Merge.f kj6 a2 a3).bind fun t220 => ((cost_Sort.f a2).bind fun t221 => ((cost_Group.f a2 a4).bind fun t222 => ((cost_Add.f kj6 (([a2, a3] : List Int))).bind fun t226 => (roadbooklaw10_CostMore.l0 kj6 (([t204, t205, t206, t207, t208, t209, t213] : List Int)) (([t217, t218, t219, t220, t221, t222, t226] : List Int)) 0))))))))) = some r := H
        have A17 := Aside0.mk A170
        clear A170
        obtain ⟨y210, hy210⟩ : ∃ y_ : List Int, y_ = (([a0, a1] : List Int)) := ⟨_, rfl⟩
        replace H : ((cost_Add.f kj6 y210).bind fun t213 => ((cost_Scan.f a2).bind fun t217 => ((cost_Nest.f a2 a3).bind fun t218 => ((cost_Hash.f kj6 a2 a3).bind fun t219 => ((cost_Merge.f kj6 a2 a3).bind fun t220 => ((cost_Sort.f a2).bind fun t221 => ((cost_Group.f a2 a4).bind fun t222 => ((cost_Add.f kj6 (([a2, a3] : List Int))).bind fun t226 => (roadbooklaw10_CostMore.l0 kj6 (([t204, t205, t206, t207, t208, t209, t213] : List Int)) (([t217, t218, t219, t220, t221, t222, t226] : List Int)) 0))))))))) = some r := by first | (rw [hy210]; with_reducible exact H) | (have H2_ := (Option.bind_some _ _).symm.trans H; rw [hy210]; with_reducible exact H2_) | (have H2_ := (Option.bind_some _ _).symm.trans H; with_reducible exact H2_) | with_reducible exact H | (rw [hy210]; exact H) | exact H
        have Ny210 := Aside0.mk hy210
        clear hy210
        replace H := Option.bind_eq_some_iff.mp H
        obtain ⟨t213, A180, H⟩ := H
        replace H : ((cost_Scan.f a2).bind fun t217 => ((cost_Nest.f a2 a3).bind fun t218 => ((cost_Hash.f kj6 a2 a3).bind fun t219 => ((cost_Merge.f kj6 a2 a3).bind fun t220 => ((cost_Sort.f a2).bind fun t221 => ((cost_Group.f a2 a4).bind fun t222 => ((cost_Add.f kj6 (([a2, a3] : List Int))).bind fun t226 => (roadbooklaw10_CostMore.l0 kj6 (([t204, t205, t206, t207, t208, t209, t213] : List Int)) (([t217, t218, t219, t220, t221, t222, t226] : List Int)) 0)))))))) = some r := H
        have A18 := Aside0.mk A180
        clear A180
        obtain ⟨y214, hy214⟩ : ∃ y_ : List Int, y_ = (([t204, t205, t206, t207, t208, t209, t213] : List Int)) := ⟨_, rfl⟩
        replace H : ((cost_Scan.f a2).bind fun t217 => ((cost_Nest.f a2 a3).bind fun t218 => ((cost_Hash.f kj6 a2 a3).bind fun t219 => ((cost_Merge.f kj6 a2 a3).bind fun t220 => ((cost_Sort.f a2).bind fun t221 => ((cost_Group.f a2 a4).bind fun t222 => ((cost_Add.f kj6 (([a2, a3] : List Int))).bind fun t226 => (roadbooklaw10_CostMore.l0 kj6 y214 (([t217, t218, t219, t220, t221, t222, t226] : List Int)) 0)))))))) = some r := by first | (rw [hy214]; with_reducible exact H) | (have H2_ := (Option.bind_some _ _).symm.trans H; rw [hy214]; with_reducible exact H2_) | (have H2_ := (Option.bind_some _ _).symm.trans H; with_reducible exact H2_) | with_reducible exact H | (rw [hy214]; exact H) | exact H
        have Ny214 := Aside0.mk hy214
        clear hy214
        replace H := Option.bind_eq_some_iff.mp H
        obtain ⟨t217, A190, H⟩ := H
        replace H : ((cost_Nest.f a2 a3).bind fun t218 => ((cost_Hash.f kj6 a2 a3).bind fun t219 => ((cost_Merge.f kj6 a2 a3).bind fun t220 => ((cost_Sort.f a2).bind fun t221 => ((cost_Group.f a2 a4).bind fun t222 => ((cost_Add.f kj6 (([a2, a3] : List Int))).bind fun t226 => (roadbooklaw10_CostMore.l0 kj6 y214 (([t217, t218, t219, t220, t221, t222, t226] : List Int)) 0))))))) = some r := H
        have A19 := Aside0.mk A190
        clear A190
        replace H := Option.bind_eq_some_iff.mp H
        obtain ⟨t218, A200, H⟩ := H
        replace H : ((cost_Hash.f kj6 a2 a3).bind fun t219 => ((cost_Merge.f kj6 a2 a3).bind fun t220 => ((cost_Sort.f a2).bind fun t221 => ((cost_Group.f a2 a4).bind fun t222 => ((cost_Add.f kj6 (([a2, a3] : List Int))).bind fun t226 => (roadbooklaw10_CostMore.l0 kj6 y214 (([t217, t218, t219, t220, t221, t222, t226] : List Int)) 0)))))) = some r := H
        have A20 := Aside0.mk A200
        clear A200
        replace H := Option.bind_eq_some_iff.mp H
        obtain ⟨t219, A210, H⟩ := H
        replace H : ((cost_Merge.f kj6 a2 a3).bind fun t220 => ((cost_Sort.f a2).bind fun t221 => ((cost_Group.f a2 a4).bind fun t222 => ((cost_Add.f kj6 (([a2, a3] : List Int))).bind fun t226 => (roadbooklaw10_CostMore.l0 kj6 y214 (([t217, t218, t219, t220, t221, t222, t226] : List Int)) 0))))) = some r := H
        have A21 := Aside0.mk A210
        clear A210
        replace H := Option.bind_eq_some_iff.mp H
        obtain ⟨t220, A220, H⟩ := H
        replace H : ((cost_Sort.f a2).bind fun t221 => ((cost_Group.f a2 a4).bind fun t222 => ((cost_Add.f kj6 (([a2, a3] : List Int))).bind fun t226 => (roadbooklaw10_CostMore.l0 kj6 y214 (([t217, t218, t219, t220, t221, t222, t226] : List Int)) 0)))) = some r := H
        have A22 := Aside0.mk A220
        clear A220
        replace H := Option.bind_eq_some_iff.mp H
        obtain ⟨t221, A230, H⟩ := H
        replace H : ((cost_Group.f a2 a4).bind fun t222 => ((cost_Add.f kj6 (([a2, a3] : List Int))).bind fun t226 => (roadbooklaw10_CostMore.l0 kj6 y214 (([t217, t218, t219, t220, t221, t222, t226] : List Int)) 0))) = some r := H
        have A23 := Aside0.mk A230
        clear A230
        replace H := Option.bind_eq_some_iff.mp H
        obtain ⟨t222, A240, H⟩ := H
        replace H : ((cost_Add.f kj6 (([a2, a3] : List Int))).bind fun t226 => (roadbooklaw10_CostMore.l0 kj6 y214 (([t217, t218, t219, t220, t221, t222, t226] : List Int)) 0)) = some r := H
        have A24 := Aside0.mk A240
        clear A240
        obtain ⟨y223, hy223⟩ : ∃ y_ : List Int, y_ = (([a2, a3] : List Int)) := ⟨_, rfl⟩
        replace H : ((cost_Add.f kj6 y223).bind fun t226 => (roadbooklaw10_CostMore.l0 kj6 y214 (([t217, t218, t219, t220, t221, t222, t226] : List Int)) 0)) = some r := by first | (rw [hy223]; with_reducible exact H) | (have H2_ := (Option.bind_some _ _).symm.trans H; rw [hy223]; with_reducible exact H2_) | (have H2_ := (Option.bind_some _ _).symm.trans H; with_reducible exact H2_) | with_reducible exact H | (rw [hy223]; exact H) | exact H
        have Ny223 := Aside0.mk hy223
        clear hy223
        replace H := Option.bind_eq_some_iff.mp H
        obtain ⟨t226, A250, H⟩ := H
        replace H : (roadbooklaw10_CostMore.l0 kj6 y214 (([t217, t218, t219, t220, t221, t222, t226] : List Int)) 0) = some r := H
        have A25 := Aside0.mk A250
        clear A250
        obtain ⟨y227, hy227⟩ : ∃ y_ : List Int, y_ = (([t217, t218, t219, t220, t221, t222, t226] : List Int)) := ⟨_, rfl⟩
        replace H : (roadbooklaw10_CostMore.l0 kj6 y214 y227 0) = some r := by first | (rw [hy227]; with_reducible exact H) | (have H2_ := (Option.bind_some _ _).symm.trans H; rw [hy227]; with_reducible exact H2_) | (have H2_ := (Option.bind_some _ _).symm.trans H; with_reducible exact H2_) | with_reducible exact H | (rw [hy227]; exact H) | exact H
        have Ny227 := Aside0.mk hy227
        clear hy227
        have H' := Aside0.mk H
        clear H
        go_wp2_with (first | (go_at_call 12; (with_reducible refine (cost_Scan.calls a0 t204 _ A12.out).mono ?_); rintro e w26 ⟨rfl, hb⟩; have n0_ := Aside0.mk (below_step (by repeat (first | (with_reducible first | exact HB.out | apply below_alloc | apply pw_below_drewN | apply below_drew1) | exact HB.out)) hb); clear HB; have HB := n0_; clear n0_; (try clear hb); (try clear hb2); (try clear hk); (try clear hi)) | (go_at_call 14; (with_reducible refine (cost_Nest.calls a0 a1 t205 _ A13.out).mono ?_); rintro e w27 ⟨rfl, hb⟩; have n0_ := Aside0.mk (below_step (by repeat (first | (with_reducible first | exact HB.out | apply below_alloc | apply pw_below_drewN | apply below_drew1) | exact HB.out)) hb); clear HB; have HB := n0_; clear n0_; (try clear hb); (try clear hb2); (try clear hk); (try clear hi)) | (go_at_call 16; (with_reducible refine (cost_Hash.calls kj6 a0 a1 t206 _ A14.out).mono ?_); rintro e w28 ⟨rfl, hb⟩; have n0_ := Aside0.mk (below_step (by repeat (first | (with_reducible first | exact HB.out | apply below_alloc | apply pw_below_drewN | apply below_drew1) | exact HB.out)) hb); clear HB; have HB := n0_; clear n0_; (try clear hb); (try clear hb2); (try clear hk); (try clear hi)) | (go_at_call 18; (with_reducible refine (cost_Merge.calls kj6 a0 a1 t207 _ A15.out).mono ?_); rintro e w29 ⟨rfl, hb⟩; have n0_ := Aside0.mk (below_step (by repeat (first | (with_reducible first | exact HB.out | apply below_alloc | apply pw_below_drewN | apply below_drew1) | exact HB.out)) hb); clear HB; have HB := n0_; clear n0_; (try clear hb); (try clear hb2); (try clear hk); (try clear hi)) | (go_at_call 10; (with_reducible refine (cost_Sort.calls a0 t208 _ A16.out).mono ?_); rintro e w30 ⟨rfl, hb⟩; have n0_ := Aside0.mk (below_step (by repeat (first | (with_reducible first | exact HB.out | apply below_alloc | apply pw_below_drewN | apply below_drew1) | exact HB.out)) hb); clear HB; have HB := n0_; clear n0_; (try clear hb); (try clear hb2); (try clear hk); (try clear hi)) | (go_at_call 21; (with_reducible refine (cost_Group.calls a0 a4 t209 _ A17.out).mono ?_); rintro e w31 ⟨rfl, hb⟩; have n0_ := Aside0.mk (below_step (by repeat (first | (with_reducible first | exact HB.out | apply below_alloc | apply pw_below_drewN | apply below_drew1) | exact HB.out)) hb); clear HB; have HB := n0_; clear n0_; (try clear hb); (try clear hb2); (try clear hk); (try clear hi)) | ((with_reducible refine gate_dst (N := 47) rfl ?_); refine Kd.R_lit (Kd.int .i64) _ 3 ?hg (N := 47) ?hd (xs := ([a0, a1] : List Int)) (inner := [.int .i64 a0, .int .i64 a1]) (ok := fun _ => True) (okp := fun _ => True) ?hr ?hp (fun _ hk => hk) trivial (Below.refl _ _) (Nat.le_refl _) (by simp) ?_; (case hd => rfl); (case hg => rfl); (case hr => first | (go_simp; done) | (go_simp; rfl)); (case hp => exact (Reps.one (show Kd.M (Kd.int .i64) _ _ _ a0 [.int .i64 a0] from rfl) (Reps.one (show Kd.M (Kd.int .i64) _ _ _ a1 [.int .i64 a1] from rfl) (Reps.none _ _)))); intro v211 w32 ho33 hb hg_ hnew_; clear hg_ hnew_; (first | rw [← Ny210.out] at ho33 | (simp only [Int.reduceToNat] at ho33; rw [← Ny210.out] at ho33)); have n0_ := Aside0.mk (Kd.R_lower ho33 (below_size (by repeat (first | (with_reducible first | exact HB.out | apply below_alloc | apply pw_below_drewN | apply below_drew1) | exact HB.out)))); have n1_ := Aside0.mk (below_step (by repeat (first | (with_reducible first | exact HB.out | apply below_alloc | apply pw_below_drewN | apply below_drew1) | exact HB.out)) hb); clear HB; have HO212 := n0_; have HB := n1_; clear n0_ n1_; clear hb ho33; obtain ⟨Ao34, co34, eo34⟩ := Kd.R_slice HO212.out; subst eo34) | (go_at_call 9; (with_reducible refine (cost_Add.calls kj6 _ _ y210 t213 _ ?side1 ?side2 A18.out).mono ?_); (case side1 => repeat (first | exact (Kd.R_reads' HO212.out).2.2 | (with_reducible refine Kd.C_alloc ?_ _) | (with_reducible refine Kd.C_drewN ?_ _) | (with_reducible refine Kd.C_drew ?_))); (case side2 => exact (Kd.R_reads' HO212.out).2.1); rintro e w35 ⟨rfl, hb⟩; have n0_ := Aside0.mk (Kd.R_below (by (with_reducible repeat (first | apply Kd.R_alloc | apply Kd.R_drewN | apply Kd.R_drew)); exact HO212.out) hb); have n1_ := Aside0.mk (below_step (by repeat (first | (with_reducible first | exact HB.out | apply below_alloc | apply pw_below_drewN | apply below_drew1) | exact HB.out)) hb); clear HO212; clear HB; have HO212 := n0_; have HB := n1_; clear n0_ n1_; (try clear hb); (try clear hb2); (try clear hk); (try clear hi)) | ((with_reducible refine gate_dst (N := 49) rfl ?_); refine Kd.R_lit (Kd.int .i64) _ 3 ?hg (N := 49) ?hd (xs := ([t204, t205, t206, t207, t208, t209, t213] : List Int)) (inner := [.int .i64 t204, .int .i64 t205, .int .i64 t206, .int .i64 t207, .int .i64 t208, .int .i64 t209, .int .i64 t213]) (ok := fun _ => True) (okp := fun _ => True) ?hr ?hp (fun _ hk => hk) trivial (Below.refl _ _) (Nat.le_refl _) (by simp) ?_; (case hd => rfl); (case hg => rfl); (case hr => first | (go_simp; done) | (go_simp; rfl)); (case hp => exact (Reps.one (show Kd.M (Kd.int .i64) _ _ _ t204 [.int .i64 t204] from rfl) (Reps.one (show Kd.M (Kd.int .i64) _ _ _ t205 [.int .i64 t205] from rfl) (Reps.one (show Kd.M (Kd.int .i64) _ _ _ t206 [.int .i64 t206] from rfl) (Reps.one (show Kd.M (Kd.int .i64) _ _ _ t207 [.int .i64 t207] from rfl) (Reps.one (show Kd.M (Kd.int .i64) _ _ _ t208 [.int .i64 t208] from rfl) (Reps.one (show Kd.M (Kd.int .i64) _ _ _ t209 [.int .i64 t209] from rfl) (Reps.one (show Kd.M (Kd.int .i64) _ _ _ t213 [.int .i64 t213] from rfl) (Reps.none _ _))))))))); intro v215 w36 ho37 hb hg_ hnew_; clear hg_ hnew_; (first | rw [← Ny214.out] at ho37 | (simp only [Int.reduceToNat] at ho37; rw [← Ny214.out] at ho37)); have n0_ := Aside0.mk (Kd.R_elder' (by (with_reducible repeat (first | apply Kd.R_alloc | apply Kd.R_drewN | apply Kd.R_drew)); exact HO212.out) (Kd.R_base ho37) hb); have n1_ := Aside0.mk (Kd.R_lower (Kd.R_new' ho37 (Kd.R_lt (by (with_reducible repeat (first | apply Kd.R_alloc | apply Kd.R_drewN | apply Kd.R_drew)); exact HO212.out))) (below_size (by repeat (first | (with_reducible first | exact HB.out | apply below_alloc | apply pw_below_drewN | apply below_drew1) | exact HB.out)))); have n2_ := Aside0.mk (below_step (by repeat (first | (with_reducible first | exact HB.out | apply below_alloc | apply pw_below_drewN | apply below_drew1) | exact HB.out)) hb); clear HO212; clear HB; have HO212 := n0_; have HO216 := n1_; have HB := n2_; clear n0_ n1_ n2_; clear hb ho37) | (go_at_call 12; (with_reducible refine (cost_Scan.calls a2 t217 _ A19.out).mono ?_); rintro e w38 ⟨rfl, hb⟩; have n0_ := Aside0.mk (Kd.R_below (by (with_reducible repeat (first | apply Kd.R_alloc | apply Kd.R_drewN | apply Kd.R_drew)); exact HO212.out) hb); have n1_ := Aside0.mk (Kd.R_below (by (with_reducible repeat (first | apply Kd.R_alloc | apply Kd.R_drewN | apply Kd.R_drew)); exact HO216.out) hb); have n2_ := Aside0.mk (below_step (by repeat (first | (with_reducible first | exact HB.out | apply below_alloc | apply pw_below_drewN | apply below_drew1) | exact HB.out)) hb); clear HO212; clear HO216; clear HB; have HO212 := n0_; have HO216 := n1_; have HB := n2_; clear n0_ n1_ n2_; (try clear hb); (try clear hb2); (try clear hk); (try clear hi)) | (go_at_call 14; (with_reducible refine (cost_Nest.calls a2 a3 t218 _ A20.out).mono ?_); rintro e w39 ⟨rfl, hb⟩; have n0_ := Aside0.mk (Kd.R_below (by (with_reducible repeat (first | apply Kd.R_alloc | apply Kd.R_drewN | apply Kd.R_drew)); exact HO212.out) hb); have n1_ := Aside0.mk (Kd.R_below (by (with_reducible repeat (first | apply Kd.R_alloc | apply Kd.R_drewN | apply Kd.R_drew)); exact HO216.out) hb); have n2_ := Aside0.mk (below_step (by repeat (first | (with_reducible first | exact HB.out | apply below_alloc | apply pw_below_drewN | apply below_drew1) | exact HB.out)) hb); clear HO212; clear HO216; clear HB; have HO212 := n0_; have HO216 := n1_; have HB := n2_; clear n0_ n1_ n2_; (try clear hb); (try clear hb2); (try clear hk); (try clear hi)) | (go_at_call 16; (with_reducible refine (cost_Hash.calls kj6 a2 a3 t219 _ A21.out).mono ?_); rintro e w40 ⟨rfl, hb⟩; have n0_ := Aside0.mk (Kd.R_below (by (with_reducible repeat (first | apply Kd.R_alloc | apply Kd.R_drewN | apply Kd.R_drew)); exact HO212.out) hb); have n1_ := Aside0.mk (Kd.R_below (by (with_reducible repeat (first | apply Kd.R_alloc | apply Kd.R_drewN | apply Kd.R_drew)); exact HO216.out) hb); have n2_ := Aside0.mk (below_step (by repeat (first | (with_reducible first | exact HB.out | apply below_alloc | apply pw_below_drewN | apply below_drew1) | exact HB.out)) hb); clear HO212; clear HO216; clear HB; have HO212 := n0_; have HO216 := n1_; have HB := n2_; clear n0_ n1_ n2_; (try clear hb); (try clear hb2); (try clear hk); (try clear hi)) | (go_at_call 18; (with_reducible refine (cost_Merge.calls kj6 a2 a3 t220 _ A22.out).mono ?_); rintro e w41 ⟨rfl, hb⟩; have n0_ := Aside0.mk (Kd.R_below (by (with_reducible repeat (first | apply Kd.R_alloc | apply Kd.R_drewN | apply Kd.R_drew)); exact HO212.out) hb); have n1_ := Aside0.mk (Kd.R_below (by (with_reducible repeat (first | apply Kd.R_alloc | apply Kd.R_drewN | apply Kd.R_drew)); exact HO216.out) hb); have n2_ := Aside0.mk (below_step (by repeat (first | (with_reducible first | exact HB.out | apply below_alloc | apply pw_below_drewN | apply below_drew1) | exact HB.out)) hb); clear HO212; clear HO216; clear HB; have HO212 := n0_; have HO216 := n1_; have HB := n2_; clear n0_ n1_ n2_; (try clear hb); (try clear hb2); (try clear hk); (try clear hi)) | (go_at_call 10; (with_reducible refine (cost_Sort.calls a2 t221 _ A23.out).mono ?_); rintro e w42 ⟨rfl, hb⟩; have n0_ := Aside0.mk (Kd.R_below (by (with_reducible repeat (first | apply Kd.R_alloc | apply Kd.R_drewN | apply Kd.R_drew)); exact HO212.out) hb); have n1_ := Aside0.mk (Kd.R_below (by (with_reducible repeat (first | apply Kd.R_alloc | apply Kd.R_drewN | apply Kd.R_drew)); exact HO216.out) hb); have n2_ := Aside0.mk (below_step (by repeat (first | (with_reducible first | exact HB.out | apply below_alloc | apply pw_below_drewN | apply below_drew1) | exact HB.out)) hb); clear HO212; clear HO216; clear HB; have HO212 := n0_; have HO216 := n1_; have HB := n2_; clear n0_ n1_ n2_; (try clear hb); (try clear hb2); (try clear hk); (try clear hi)) | (go_at_call 21; (with_reducible refine (cost_Group.calls a2 a4 t222 _ A24.out).mono ?_); rintro e w43 ⟨rfl, hb⟩; have n0_ := Aside0.mk (Kd.R_below (by (with_reducible repeat (first | apply Kd.R_alloc | apply Kd.R_drewN | apply Kd.R_drew)); exact HO212.out) hb); have n1_ := Aside0.mk (Kd.R_below (by (with_reducible repeat (first | apply Kd.R_alloc | apply Kd.R_drewN | apply Kd.R_drew)); exact HO216.out) hb); have n2_ := Aside0.mk (below_step (by repeat (first | (with_reducible first | exact HB.out | apply below_alloc | apply pw_below_drewN | apply below_drew1) | exact HB.out)) hb); clear HO212; clear HO216; clear HB; have HO212 := n0_; have HO216 := n1_; have HB := n2_; clear n0_ n1_ n2_; (try clear hb); (try clear hb2); (try clear hk); (try clear hi)) | ((with_reducible refine gate_dst (N := 68) rfl ?_); refine Kd.R_lit (Kd.int .i64) _ 3 ?hg (N := 68) ?hd (xs := ([a2, a3] : List Int)) (inner := [.int .i64 a2, .int .i64 a3]) (ok := fun _ => True) (okp := fun _ => True) ?hr ?hp (fun _ hk => hk) trivial (Below.refl _ _) (Nat.le_refl _) (by simp) ?_; (case hd => rfl); (case hg => rfl); (case hr => first | (go_simp; done) | (go_simp; rfl)); (case hp => exact (Reps.one (show Kd.M (Kd.int .i64) _ _ _ a2 [.int .i64 a2] from rfl) (Reps.one (show Kd.M (Kd.int .i64) _ _ _ a3 [.int .i64 a3] from rfl) (Reps.none _ _)))); intro v224 w44 ho45 hb hg_ hnew_; clear hg_ hnew_; (first | rw [← Ny223.out] at ho45 | (simp only [Int.reduceToNat] at ho45; rw [← Ny223.out] at ho45)); have n0_ := Aside0.mk (Kd.R_elder' (by (with_reducible repeat (first | apply Kd.R_alloc | apply Kd.R_drewN | apply Kd.R_drew)); exact HO212.out) (Kd.R_base ho45) hb); have n1_ := Aside0.mk (Kd.R_elder' (by (with_reducible repeat (first | apply Kd.R_alloc | apply Kd.R_drewN | apply Kd.R_drew)); exact HO216.out) (Kd.R_base ho45) hb); have n2_ := Aside0.mk (Kd.R_lower (Kd.R_new' (Kd.R_new' ho45 (Kd.R_lt (by (with_reducible repeat (first | apply Kd.R_alloc | apply Kd.R_drewN | apply Kd.R_drew)); exact HO212.out))) (Kd.R_lt (by (with_reducible repeat (first | apply Kd.R_alloc | apply Kd.R_drewN | apply Kd.R_drew)); exact HO216.out))) (below_size (by repeat (first | (with_reducible first | exact HB.out | apply below_alloc | apply pw_below_drewN | apply below_drew1) | exact HB.out)))); have n3_ := Aside0.mk (below_step (by repeat (first | (with_reducible first | exact HB.out | apply below_alloc | apply pw_below_drewN | apply below_drew1) | exact HB.out)) hb); clear HO212; clear HO216; clear HB; have HO212 := n0_; have HO216 := n1_; have HO225 := n2_; have HB := n3_; clear n0_ n1_ n2_ n3_; clear hb ho45; obtain ⟨Ao46, co46, eo46⟩ := Kd.R_slice HO225.out; subst eo46) | (go_at_call 9; (with_reducible refine (cost_Add.calls kj6 _ _ y223 t226 _ ?side1 ?side2 A25.out).mono ?_); (case side1 => repeat (first | exact (Kd.R_reads' HO225.out).2.2 | (with_reducible refine Kd.C_alloc ?_ _) | (with_reducible refine Kd.C_drewN ?_ _) | (with_reducible refine Kd.C_drew ?_))); (case side2 => exact (Kd.R_reads' HO225.out).2.1); rintro e w47 ⟨rfl, hb⟩; have n0_ := Aside0.mk (Kd.R_below (by (with_reducible repeat (first | apply Kd.R_alloc | apply Kd.R_drewN | apply Kd.R_drew)); exact HO212.out) hb); have n1_ := Aside0.mk (Kd.R_below (by (with_reducible repeat (first | apply Kd.R_alloc | apply Kd.R_drewN | apply Kd.R_drew)); exact HO216.out) hb); have n2_ := Aside0.mk (Kd.R_below (by (with_reducible repeat (first | apply Kd.R_alloc | apply Kd.R_drewN | apply Kd.R_drew)); exact HO225.out) hb); have n3_ := Aside0.mk (below_step (by repeat (first | (with_reducible first | exact HB.out | apply below_alloc | apply pw_below_drewN | apply below_drew1) | exact HB.out)) hb); clear HO212; clear HO216; clear HO225; clear HB; have HO212 := n0_; have HO216 := n1_; have HO225 := n2_; have HB := n3_; clear n0_ n1_ n2_ n3_; (try clear hb); (try clear hb2); (try clear hk); (try clear hi)) | ((with_reducible refine gate_dst (N := 70) rfl ?_); refine Kd.R_lit (Kd.int .i64) _ 3 ?hg (N := 70) ?hd (xs := ([t217, t218, t219, t220, t221, t222, t226] : List Int)) (inner := [.int .i64 t217, .int .i64 t218, .int .i64 t219, .int .i64 t220, .int .i64 t221, .int .i64 t222, .int .i64 t226]) (ok := fun _ => True) (okp := fun _ => True) ?hr ?hp (fun _ hk => hk) trivial (Below.refl _ _) (Nat.le_refl _) (by simp) ?_; (case hd => rfl); (case hg => rfl); (case hr => first | (go_simp; done) | (go_simp; rfl)); (case hp => exact (Reps.one (show Kd.M (Kd.int .i64) _ _ _ t217 [.int .i64 t217] from rfl) (Reps.one (show Kd.M (Kd.int .i64) _ _ _ t218 [.int .i64 t218] from rfl) (Reps.one (show Kd.M (Kd.int .i64) _ _ _ t219 [.int .i64 t219] from rfl) (Reps.one (show Kd.M (Kd.int .i64) _ _ _ t220 [.int .i64 t220] from rfl) (Reps.one (show Kd.M (Kd.int .i64) _ _ _ t221 [.int .i64 t221] from rfl) (Reps.one (show Kd.M (Kd.int .i64) _ _ _ t222 [.int .i64 t222] from rfl) (Reps.one (show Kd.M (Kd.int .i64) _ _ _ t226 [.int .i64 t226] from rfl) (Reps.none _ _))))))))); intro v228 w48 ho49 hb hg_ hnew_; clear hg_ hnew_; (first | rw [← Ny227.out] at ho49 | (simp only [Int.reduceToNat] at ho49; rw [← Ny227.out] at ho49)); have n0_ := Aside0.mk (Kd.R_elder' (by (with_reducible repeat (first | apply Kd.R_alloc | apply Kd.R_drewN | apply Kd.R_drew)); exact HO212.out) (Kd.R_base ho49) hb); have n1_ := Aside0.mk (Kd.R_elder' (by (with_reducible repeat (first | apply Kd.R_alloc | apply Kd.R_drewN | apply Kd.R_drew)); exact HO216.out) (Kd.R_base ho49) hb); have n2_ := Aside0.mk (Kd.R_elder' (by (with_reducible repeat (first | apply Kd.R_alloc | apply Kd.R_drewN | apply Kd.R_drew)); exact HO225.out) (Kd.R_base ho49) hb); have n3_ := Aside0.mk (Kd.R_lower (Kd.R_new' (Kd.R_new' (Kd.R_new' ho49 (Kd.R_lt (by (with_reducible repeat (first | apply Kd.R_alloc | apply Kd.R_drewN | apply Kd.R_drew)); exact HO212.out))) (Kd.R_lt (by (with_reducible repeat (first | apply Kd.R_alloc | apply Kd.R_drewN | apply Kd.R_drew)); exact HO216.out))) (Kd.R_lt (by (with_reducible repeat (first | apply Kd.R_alloc | apply Kd.R_drewN | apply Kd.R_drew)); exact HO225.out))) (below_size (by repeat (first | (with_reducible first | exact HB.out | apply below_alloc | apply pw_below_drewN | apply below_drew1) | exact HB.out)))); have n4_ := Aside0.mk (below_step (by repeat (first | (with_reducible first | exact HB.out | apply below_alloc | apply pw_below_drewN | apply below_drew1) | exact HB.out)) hb); clear HO212; clear HO216; clear HO225; clear HB; have HO212 := n0_; have HO216 := n1_; have HO225 := n2_; have HO229 := n3_; have HB := n4_; clear n0_ n1_ n2_ n3_ n4_; clear hb ho49))
        repeat (go_quiet (first | (go_at_call 12; (with_reducible refine (cost_Scan.calls a0 t204 _ A12.out).mono ?_); rintro e w26 ⟨rfl, hb⟩; have n0_ := Aside0.mk (below_step (by repeat (first | (with_reducible first | exact HB.out | apply below_alloc | apply pw_below_drewN | apply below_drew1) | exact HB.out)) hb); clear HB; have HB := n0_; clear n0_; (try clear hb); (try clear hb2); (try clear hk); (try clear hi)) | (go_at_call 14; (with_reducible refine (cost_Nest.calls a0 a1 t205 _ A13.out).mono ?_); rintro e w27 ⟨rfl, hb⟩; have n0_ := Aside0.mk (below_step (by repeat (first | (with_reducible first | exact HB.out | apply below_alloc | apply pw_below_drewN | apply below_drew1) | exact HB.out)) hb); clear HB; have HB := n0_; clear n0_; (try clear hb); (try clear hb2); (try clear hk); (try clear hi)) | (go_at_call 16; (with_reducible refine (cost_Hash.calls kj6 a0 a1 t206 _ A14.out).mono ?_); rintro e w28 ⟨rfl, hb⟩; have n0_ := Aside0.mk (below_step (by repeat (first | (with_reducible first | exact HB.out | apply below_alloc | apply pw_below_drewN | apply below_drew1) | exact HB.out)) hb); clear HB; have HB := n0_; clear n0_; (try clear hb); (try clear hb2); (try clear hk); (try clear hi)) | (go_at_call 18; (with_reducible refine (cost_Merge.calls kj6 a0 a1 t207 _ A15.out).mono ?_); rintro e w29 ⟨rfl, hb⟩; have n0_ := Aside0.mk (below_step (by repeat (first | (with_reducible first | exact HB.out | apply below_alloc | apply pw_below_drewN | apply below_drew1) | exact HB.out)) hb); clear HB; have HB := n0_; clear n0_; (try clear hb); (try clear hb2); (try clear hk); (try clear hi)) | (go_at_call 10; (with_reducible refine (cost_Sort.calls a0 t208 _ A16.out).mono ?_); rintro e w30 ⟨rfl, hb⟩; have n0_ := Aside0.mk (below_step (by repeat (first | (with_reducible first | exact HB.out | apply below_alloc | apply pw_below_drewN | apply below_drew1) | exact HB.out)) hb); clear HB; have HB := n0_; clear n0_; (try clear hb); (try clear hb2); (try clear hk); (try clear hi)) | (go_at_call 21; (with_reducible refine (cost_Group.calls a0 a4 t209 _ A17.out).mono ?_); rintro e w31 ⟨rfl, hb⟩; have n0_ := Aside0.mk (below_step (by repeat (first | (with_reducible first | exact HB.out | apply below_alloc | apply pw_below_drewN | apply below_drew1) | exact HB.out)) hb); clear HB; have HB := n0_; clear n0_; (try clear hb); (try clear hb2); (try clear hk); (try clear hi)) | ((with_reducible refine gate_dst (N := 47) rfl ?_); refine Kd.R_lit (Kd.int .i64) _ 3 ?hg (N := 47) ?hd (xs := ([a0, a1] : List Int)) (inner := [.int .i64 a0, .int .i64 a1]) (ok := fun _ => True) (okp := fun _ => True) ?hr ?hp (fun _ hk => hk) trivial (Below.refl _ _) (Nat.le_refl _) (by simp) ?_; (case hd => rfl); (case hg => rfl); (case hr => first | (go_simp; done) | (go_simp; rfl)); (case hp => exact (Reps.one (show Kd.M (Kd.int .i64) _ _ _ a0 [.int .i64 a0] from rfl) (Reps.one (show Kd.M (Kd.int .i64) _ _ _ a1 [.int .i64 a1] from rfl) (Reps.none _ _)))); intro v211 w32 ho33 hb hg_ hnew_; clear hg_ hnew_; (first | rw [← Ny210.out] at ho33 | (simp only [Int.reduceToNat] at ho33; rw [← Ny210.out] at ho33)); have n0_ := Aside0.mk (Kd.R_lower ho33 (below_size (by repeat (first | (with_reducible first | exact HB.out | apply below_alloc | apply pw_below_drewN | apply below_drew1) | exact HB.out)))); have n1_ := Aside0.mk (below_step (by repeat (first | (with_reducible first | exact HB.out | apply below_alloc | apply pw_below_drewN | apply below_drew1) | exact HB.out)) hb); clear HB; have HO212 := n0_; have HB := n1_; clear n0_ n1_; clear hb ho33; obtain ⟨Ao34, co34, eo34⟩ := Kd.R_slice HO212.out; subst eo34) | (go_at_call 9; (with_reducible refine (cost_Add.calls kj6 _ _ y210 t213 _ ?side1 ?side2 A18.out).mono ?_); (case side1 => repeat (first | exact (Kd.R_reads' HO212.out).2.2 | (with_reducible refine Kd.C_alloc ?_ _) | (with_reducible refine Kd.C_drewN ?_ _) | (with_reducible refine Kd.C_drew ?_))); (case side2 => exact (Kd.R_reads' HO212.out).2.1); rintro e w35 ⟨rfl, hb⟩; have n0_ := Aside0.mk (Kd.R_below (by (with_reducible repeat (first | apply Kd.R_alloc | apply Kd.R_drewN | apply Kd.R_drew)); exact HO212.out) hb); have n1_ := Aside0.mk (below_step (by repeat (first | (with_reducible first | exact HB.out | apply below_alloc | apply pw_below_drewN | apply below_drew1) | exact HB.out)) hb); clear HO212; clear HB; have HO212 := n0_; have HB := n1_; clear n0_ n1_; (try clear hb); (try clear hb2); (try clear hk); (try clear hi)) | ((with_reducible refine gate_dst (N := 49) rfl ?_); refine Kd.R_lit (Kd.int .i64) _ 3 ?hg (N := 49) ?hd (xs := ([t204, t205, t206, t207, t208, t209, t213] : List Int)) (inner := [.int .i64 t204, .int .i64 t205, .int .i64 t206, .int .i64 t207, .int .i64 t208, .int .i64 t209, .int .i64 t213]) (ok := fun _ => True) (okp := fun _ => True) ?hr ?hp (fun _ hk => hk) trivial (Below.refl _ _) (Nat.le_refl _) (by simp) ?_; (case hd => rfl); (case hg => rfl); (case hr => first | (go_simp; done) | (go_simp; rfl)); (case hp => exact (Reps.one (show Kd.M (Kd.int .i64) _ _ _ t204 [.int .i64 t204] from rfl) (Reps.one (show Kd.M (Kd.int .i64) _ _ _ t205 [.int .i64 t205] from rfl) (Reps.one (show Kd.M (Kd.int .i64) _ _ _ t206 [.int .i64 t206] from rfl) (Reps.one (show Kd.M (Kd.int .i64) _ _ _ t207 [.int .i64 t207] from rfl) (Reps.one (show Kd.M (Kd.int .i64) _ _ _ t208 [.int .i64 t208] from rfl) (Reps.one (show Kd.M (Kd.int .i64) _ _ _ t209 [.int .i64 t209] from rfl) (Reps.one (show Kd.M (Kd.int .i64) _ _ _ t213 [.int .i64 t213] from rfl) (Reps.none _ _))))))))); intro v215 w36 ho37 hb hg_ hnew_; clear hg_ hnew_; (first | rw [← Ny214.out] at ho37 | (simp only [Int.reduceToNat] at ho37; rw [← Ny214.out] at ho37)); have n0_ := Aside0.mk (Kd.R_elder' (by (with_reducible repeat (first | apply Kd.R_alloc | apply Kd.R_drewN | apply Kd.R_drew)); exact HO212.out) (Kd.R_base ho37) hb); have n1_ := Aside0.mk (Kd.R_lower (Kd.R_new' ho37 (Kd.R_lt (by (with_reducible repeat (first | apply Kd.R_alloc | apply Kd.R_drewN | apply Kd.R_drew)); exact HO212.out))) (below_size (by repeat (first | (with_reducible first | exact HB.out | apply below_alloc | apply pw_below_drewN | apply below_drew1) | exact HB.out)))); have n2_ := Aside0.mk (below_step (by repeat (first | (with_reducible first | exact HB.out | apply below_alloc | apply pw_below_drewN | apply below_drew1) | exact HB.out)) hb); clear HO212; clear HB; have HO212 := n0_; have HO216 := n1_; have HB := n2_; clear n0_ n1_ n2_; clear hb ho37) | (go_at_call 12; (with_reducible refine (cost_Scan.calls a2 t217 _ A19.out).mono ?_); rintro e w38 ⟨rfl, hb⟩; have n0_ := Aside0.mk (Kd.R_below (by (with_reducible repeat (first | apply Kd.R_alloc | apply Kd.R_drewN | apply Kd.R_drew)); exact HO212.out) hb); have n1_ := Aside0.mk (Kd.R_below (by (with_reducible repeat (first | apply Kd.R_alloc | apply Kd.R_drewN | apply Kd.R_drew)); exact HO216.out) hb); have n2_ := Aside0.mk (below_step (by repeat (first | (with_reducible first | exact HB.out | apply below_alloc | apply pw_below_drewN | apply below_drew1) | exact HB.out)) hb); clear HO212; clear HO216; clear HB; have HO212 := n0_; have HO216 := n1_; have HB := n2_; clear n0_ n1_ n2_; (try clear hb); (try clear hb2); (try clear hk); (try clear hi)) | (go_at_call 14; (with_reducible refine (cost_Nest.calls a2 a3 t218 _ A20.out).mono ?_); rintro e w39 ⟨rfl, hb⟩; have n0_ := Aside0.mk (Kd.R_below (by (with_reducible repeat (first | apply Kd.R_alloc | apply Kd.R_drewN | apply Kd.R_drew)); exact HO212.out) hb); have n1_ := Aside0.mk (Kd.R_below (by (with_reducible repeat (first | apply Kd.R_alloc | apply Kd.R_drewN | apply Kd.R_drew)); exact HO216.out) hb); have n2_ := Aside0.mk (below_step (by repeat (first | (with_reducible first | exact HB.out | apply below_alloc | apply pw_below_drewN | apply below_drew1) | exact HB.out)) hb); clear HO212; clear HO216; clear HB; have HO212 := n0_; have HO216 := n1_; have HB := n2_; clear n0_ n1_ n2_; (try clear hb); (try clear hb2); (try clear hk); (try clear hi)) | (go_at_call 16; (with_reducible refine (cost_Hash.calls kj6 a2 a3 t219 _ A21.out).mono ?_); rintro e w40 ⟨rfl, hb⟩; have n0_ := Aside0.mk (Kd.R_below (by (with_reducible repeat (first | apply Kd.R_alloc | apply Kd.R_drewN | apply Kd.R_drew)); exact HO212.out) hb); have n1_ := Aside0.mk (Kd.R_below (by (with_reducible repeat (first | apply Kd.R_alloc | apply Kd.R_drewN | apply Kd.R_drew)); exact HO216.out) hb); have n2_ := Aside0.mk (below_step (by repeat (first | (with_reducible first | exact HB.out | apply below_alloc | apply pw_below_drewN | apply below_drew1) | exact HB.out)) hb); clear HO212; clear HO216; clear HB; have HO212 := n0_; have HO216 := n1_; have HB := n2_; clear n0_ n1_ n2_; (try clear hb); (try clear hb2); (try clear hk); (try clear hi)) | (go_at_call 18; (with_reducible refine (cost_Merge.calls kj6 a2 a3 t220 _ A22.out).mono ?_); rintro e w41 ⟨rfl, hb⟩; have n0_ := Aside0.mk (Kd.R_below (by (with_reducible repeat (first | apply Kd.R_alloc | apply Kd.R_drewN | apply Kd.R_drew)); exact HO212.out) hb); have n1_ := Aside0.mk (Kd.R_below (by (with_reducible repeat (first | apply Kd.R_alloc | apply Kd.R_drewN | apply Kd.R_drew)); exact HO216.out) hb); have n2_ := Aside0.mk (below_step (by repeat (first | (with_reducible first | exact HB.out | apply below_alloc | apply pw_below_drewN | apply below_drew1) | exact HB.out)) hb); clear HO212; clear HO216; clear HB; have HO212 := n0_; have HO216 := n1_; have HB := n2_; clear n0_ n1_ n2_; (try clear hb); (try clear hb2); (try clear hk); (try clear hi)) | (go_at_call 10; (with_reducible refine (cost_Sort.calls a2 t221 _ A23.out).mono ?_); rintro e w42 ⟨rfl, hb⟩; have n0_ := Aside0.mk (Kd.R_below (by (with_reducible repeat (first | apply Kd.R_alloc | apply Kd.R_drewN | apply Kd.R_drew)); exact HO212.out) hb); have n1_ := Aside0.mk (Kd.R_below (by (with_reducible repeat (first | apply Kd.R_alloc | apply Kd.R_drewN | apply Kd.R_drew)); exact HO216.out) hb); have n2_ := Aside0.mk (below_step (by repeat (first | (with_reducible first | exact HB.out | apply below_alloc | apply pw_below_drewN | apply below_drew1) | exact HB.out)) hb); clear HO212; clear HO216; clear HB; have HO212 := n0_; have HO216 := n1_; have HB := n2_; clear n0_ n1_ n2_; (try clear hb); (try clear hb2); (try clear hk); (try clear hi)) | (go_at_call 21; (with_reducible refine (cost_Group.calls a2 a4 t222 _ A24.out).mono ?_); rintro e w43 ⟨rfl, hb⟩; have n0_ := Aside0.mk (Kd.R_below (by (with_reducible repeat (first | apply Kd.R_alloc | apply Kd.R_drewN | apply Kd.R_drew)); exact HO212.out) hb); have n1_ := Aside0.mk (Kd.R_below (by (with_reducible repeat (first | apply Kd.R_alloc | apply Kd.R_drewN | apply Kd.R_drew)); exact HO216.out) hb); have n2_ := Aside0.mk (below_step (by repeat (first | (with_reducible first | exact HB.out | apply below_alloc | apply pw_below_drewN | apply below_drew1) | exact HB.out)) hb); clear HO212; clear HO216; clear HB; have HO212 := n0_; have HO216 := n1_; have HB := n2_; clear n0_ n1_ n2_; (try clear hb); (try clear hb2); (try clear hk); (try clear hi)) | ((with_reducible refine gate_dst (N := 68) rfl ?_); refine Kd.R_lit (Kd.int .i64) _ 3 ?hg (N := 68) ?hd (xs := ([a2, a3] : List Int)) (inner := [.int .i64 a2, .int .i64 a3]) (ok := fun _ => True) (okp := fun _ => True) ?hr ?hp (fun _ hk => hk) trivial (Below.refl _ _) (Nat.le_refl _) (by simp) ?_; (case hd => rfl); (case hg => rfl); (case hr => first | (go_simp; done) | (go_simp; rfl)); (case hp => exact (Reps.one (show Kd.M (Kd.int .i64) _ _ _ a2 [.int .i64 a2] from rfl) (Reps.one (show Kd.M (Kd.int .i64) _ _ _ a3 [.int .i64 a3] from rfl) (Reps.none _ _)))); intro v224 w44 ho45 hb hg_ hnew_; clear hg_ hnew_; (first | rw [← Ny223.out] at ho45 | (simp only [Int.reduceToNat] at ho45; rw [← Ny223.out] at ho45)); have n0_ := Aside0.mk (Kd.R_elder' (by (with_reducible repeat (first | apply Kd.R_alloc | apply Kd.R_drewN | apply Kd.R_drew)); exact HO212.out) (Kd.R_base ho45) hb); have n1_ := Aside0.mk (Kd.R_elder' (by (with_reducible repeat (first | apply Kd.R_alloc | apply Kd.R_drewN | apply Kd.R_drew)); exact HO216.out) (Kd.R_base ho45) hb); have n2_ := Aside0.mk (Kd.R_lower (Kd.R_new' (Kd.R_new' ho45 (Kd.R_lt (by (with_reducible repeat (first | apply Kd.R_alloc | apply Kd.R_drewN | apply Kd.R_drew)); exact HO212.out))) (Kd.R_lt (by (with_reducible repeat (first | apply Kd.R_alloc | apply Kd.R_drewN | apply Kd.R_drew)); exact HO216.out))) (below_size (by repeat (first | (with_reducible first | exact HB.out | apply below_alloc | apply pw_below_drewN | apply below_drew1) | exact HB.out)))); have n3_ := Aside0.mk (below_step (by repeat (first | (with_reducible first | exact HB.out | apply below_alloc | apply pw_below_drewN | apply below_drew1) | exact HB.out)) hb); clear HO212; clear HO216; clear HB; have HO212 := n0_; have HO216 := n1_; have HO225 := n2_; have HB := n3_; clear n0_ n1_ n2_ n3_; clear hb ho45; obtain ⟨Ao46, co46, eo46⟩ := Kd.R_slice HO225.out; subst eo46) | (go_at_call 9; (with_reducible refine (cost_Add.calls kj6 _ _ y223 t226 _ ?side1 ?side2 A25.out).mono ?_); (case side1 => repeat (first | exact (Kd.R_reads' HO225.out).2.2 | (with_reducible refine Kd.C_alloc ?_ _) | (with_reducible refine Kd.C_drewN ?_ _) | (with_reducible refine Kd.C_drew ?_))); (case side2 => exact (Kd.R_reads' HO225.out).2.1); rintro e w47 ⟨rfl, hb⟩; have n0_ := Aside0.mk (Kd.R_below (by (with_reducible repeat (first | apply Kd.R_alloc | apply Kd.R_drewN | apply Kd.R_drew)); exact HO212.out) hb); have n1_ := Aside0.mk (Kd.R_below (by (with_reducible repeat (first | apply Kd.R_alloc | apply Kd.R_drewN | apply Kd.R_drew)); exact HO216.out) hb); have n2_ := Aside0.mk (Kd.R_below (by (with_reducible repeat (first | apply Kd.R_alloc | apply Kd.R_drewN | apply Kd.R_drew)); exact HO225.out) hb); have n3_ := Aside0.mk (below_step (by repeat (first | (with_reducible first | exact HB.out | apply below_alloc | apply pw_below_drewN | apply below_drew1) | exact HB.out)) hb); clear HO212; clear HO216; clear HO225; clear HB; have HO212 := n0_; have HO216 := n1_; have HO225 := n2_; have HB := n3_; clear n0_ n1_ n2_ n3_; (try clear hb); (try clear hb2); (try clear hk); (try clear hi)) | ((with_reducible refine gate_dst (N := 70) rfl ?_); refine Kd.R_lit (Kd.int .i64) _ 3 ?hg (N := 70) ?hd (xs := ([t217, t218, t219, t220, t221, t222, t226] : List Int)) (inner := [.int .i64 t217, .int .i64 t218, .int .i64 t219, .int .i64 t220, .int .i64 t221, .int .i64 t222, .int .i64 t226]) (ok := fun _ => True) (okp := fun _ => True) ?hr ?hp (fun _ hk => hk) trivial (Below.refl _ _) (Nat.le_refl _) (by simp) ?_; (case hd => rfl); (case hg => rfl); (case hr => first | (go_simp; done) | (go_simp; rfl)); (case hp => exact (Reps.one (show Kd.M (Kd.int .i64) _ _ _ t217 [.int .i64 t217] from rfl) (Reps.one (show Kd.M (Kd.int .i64) _ _ _ t218 [.int .i64 t218] from rfl) (Reps.one (show Kd.M (Kd.int .i64) _ _ _ t219 [.int .i64 t219] from rfl) (Reps.one (show Kd.M (Kd.int .i64) _ _ _ t220 [.int .i64 t220] from rfl) (Reps.one (show Kd.M (Kd.int .i64) _ _ _ t221 [.int .i64 t221] from rfl) (Reps.one (show Kd.M (Kd.int .i64) _ _ _ t222 [.int .i64 t222] from rfl) (Reps.one (show Kd.M (Kd.int .i64) _ _ _ t226 [.int .i64 t226] from rfl) (Reps.none _ _))))))))); intro v228 w48 ho49 hb hg_ hnew_; clear hg_ hnew_; (first | rw [← Ny227.out] at ho49 | (simp only [Int.reduceToNat] at ho49; rw [← Ny227.out] at ho49)); have n0_ := Aside0.mk (Kd.R_elder' (by (with_reducible repeat (first | apply Kd.R_alloc | apply Kd.R_drewN | apply Kd.R_drew)); exact HO212.out) (Kd.R_base ho49) hb); have n1_ := Aside0.mk (Kd.R_elder' (by (with_reducible repeat (first | apply Kd.R_alloc | apply Kd.R_drewN | apply Kd.R_drew)); exact HO216.out) (Kd.R_base ho49) hb); have n2_ := Aside0.mk (Kd.R_elder' (by (with_reducible repeat (first | apply Kd.R_alloc | apply Kd.R_drewN | apply Kd.R_drew)); exact HO225.out) (Kd.R_base ho49) hb); have n3_ := Aside0.mk (Kd.R_lower (Kd.R_new' (Kd.R_new' (Kd.R_new' ho49 (Kd.R_lt (by (with_reducible repeat (first | apply Kd.R_alloc | apply Kd.R_drewN | apply Kd.R_drew)); exact HO212.out))) (Kd.R_lt (by (with_reducible repeat (first | apply Kd.R_alloc | apply Kd.R_drewN | apply Kd.R_drew)); exact HO216.out))) (Kd.R_lt (by (with_reducible repeat (first | apply Kd.R_alloc | apply Kd.R_drewN | apply Kd.R_drew)); exact HO225.out))) (below_size (by repeat (first | (with_reducible first | exact HB.out | apply below_alloc | apply pw_below_drewN | apply below_drew1) | exact HB.out)))); have n4_ := Aside0.mk (below_step (by repeat (first | (with_reducible first | exact HB.out | apply below_alloc | apply pw_below_drewN | apply below_drew1) | exact HB.out)) hb); clear HO212; clear HO216; clear HO225; clear HB; have HO212 := n0_; have HO216 := n1_; have HO225 := n2_; have HO229 := n3_; have HB := n4_; clear n0_ n1_ n2_ n3_ n4_; clear hb ho49)); try go_wp2_with (first | (go_at_call 12; (with_reducible refine (cost_Scan.calls a0 t204 _ A12.out).mono ?_); rintro e w26 ⟨rfl, hb⟩; have n0_ := Aside0.mk (below_step (by repeat (first | (with_reducible first | exact HB.out | apply below_alloc | apply pw_below_drewN | apply below_drew1) | exact HB.out)) hb); clear HB; have HB := n0_; clear n0_; (try clear hb); (try clear hb2); (try clear hk); (try clear hi)) | (go_at_call 14; (with_reducible refine (cost_Nest.calls a0 a1 t205 _ A13.out).mono ?_); rintro e w27 ⟨rfl, hb⟩; have n0_ := Aside0.mk (below_step (by repeat (first | (with_reducible first | exact HB.out | apply below_alloc | apply pw_below_drewN | apply below_drew1) | exact HB.out)) hb); clear HB; have HB := n0_; clear n0_; (try clear hb); (try clear hb2); (try clear hk); (try clear hi)) | (go_at_call 16; (with_reducible refine (cost_Hash.calls kj6 a0 a1 t206 _ A14.out).mono ?_); rintro e w28 ⟨rfl, hb⟩; have n0_ := Aside0.mk (below_step (by repeat (first | (with_reducible first | exact HB.out | apply below_alloc | apply pw_below_drewN | apply below_drew1) | exact HB.out)) hb); clear HB; have HB := n0_; clear n0_; (try clear hb); (try clear hb2); (try clear hk); (try clear hi)) | (go_at_call 18; (with_reducible refine (cost_Merge.calls kj6 a0 a1 t207 _ A15.out).mono ?_); rintro e w29 ⟨rfl, hb⟩; have n0_ := Aside0.mk (below_step (by repeat (first | (with_reducible first | exact HB.out | apply below_alloc | apply pw_below_drewN | apply below_drew1) | exact HB.out)) hb); clear HB; have HB := n0_; clear n0_; (try clear hb); (try clear hb2); (try clear hk); (try clear hi)) | (go_at_call 10; (with_reducible refine (cost_Sort.calls a0 t208 _ A16.out).mono ?_); rintro e w30 ⟨rfl, hb⟩; have n0_ := Aside0.mk (below_step (by repeat (first | (with_reducible first | exact HB.out | apply below_alloc | apply pw_below_drewN | apply below_drew1) | exact HB.out)) hb); clear HB; have HB := n0_; clear n0_; (try clear hb); (try clear hb2); (try clear hk); (try clear hi)) | (go_at_call 21; (with_reducible refine (cost_Group.calls a0 a4 t209 _ A17.out).mono ?_); rintro e w31 ⟨rfl, hb⟩; have n0_ := Aside0.mk (below_step (by repeat (first | (with_reducible first | exact HB.out | apply below_alloc | apply pw_below_drewN | apply below_drew1) | exact HB.out)) hb); clear HB; have HB := n0_; clear n0_; (try clear hb); (try clear hb2); (try clear hk); (try clear hi)) | ((with_reducible refine gate_dst (N := 47) rfl ?_); refine Kd.R_lit (Kd.int .i64) _ 3 ?hg (N := 47) ?hd (xs := ([a0, a1] : List Int)) (inner := [.int .i64 a0, .int .i64 a1]) (ok := fun _ => True) (okp := fun _ => True) ?hr ?hp (fun _ hk => hk) trivial (Below.refl _ _) (Nat.le_refl _) (by simp) ?_; (case hd => rfl); (case hg => rfl); (case hr => first | (go_simp; done) | (go_simp; rfl)); (case hp => exact (Reps.one (show Kd.M (Kd.int .i64) _ _ _ a0 [.int .i64 a0] from rfl) (Reps.one (show Kd.M (Kd.int .i64) _ _ _ a1 [.int .i64 a1] from rfl) (Reps.none _ _)))); intro v211 w32 ho33 hb hg_ hnew_; clear hg_ hnew_; (first | rw [← Ny210.out] at ho33 | (simp only [Int.reduceToNat] at ho33; rw [← Ny210.out] at ho33)); have n0_ := Aside0.mk (Kd.R_lower ho33 (below_size (by repeat (first | (with_reducible first | exact HB.out | apply below_alloc | apply pw_below_drewN | apply below_drew1) | exact HB.out)))); have n1_ := Aside0.mk (below_step (by repeat (first | (with_reducible first | exact HB.out | apply below_alloc | apply pw_below_drewN | apply below_drew1) | exact HB.out)) hb); clear HB; have HO212 := n0_; have HB := n1_; clear n0_ n1_; clear hb ho33; obtain ⟨Ao34, co34, eo34⟩ := Kd.R_slice HO212.out; subst eo34) | (go_at_call 9; (with_reducible refine (cost_Add.calls kj6 _ _ y210 t213 _ ?side1 ?side2 A18.out).mono ?_); (case side1 => repeat (first | exact (Kd.R_reads' HO212.out).2.2 | (with_reducible refine Kd.C_alloc ?_ _) | (with_reducible refine Kd.C_drewN ?_ _) | (with_reducible refine Kd.C_drew ?_))); (case side2 => exact (Kd.R_reads' HO212.out).2.1); rintro e w35 ⟨rfl, hb⟩; have n0_ := Aside0.mk (Kd.R_below (by (with_reducible repeat (first | apply Kd.R_alloc | apply Kd.R_drewN | apply Kd.R_drew)); exact HO212.out) hb); have n1_ := Aside0.mk (below_step (by repeat (first | (with_reducible first | exact HB.out | apply below_alloc | apply pw_below_drewN | apply below_drew1) | exact HB.out)) hb); clear HO212; clear HB; have HO212 := n0_; have HB := n1_; clear n0_ n1_; (try clear hb); (try clear hb2); (try clear hk); (try clear hi)) | ((with_reducible refine gate_dst (N := 49) rfl ?_); refine Kd.R_lit (Kd.int .i64) _ 3 ?hg (N := 49) ?hd (xs := ([t204, t205, t206, t207, t208, t209, t213] : List Int)) (inner := [.int .i64 t204, .int .i64 t205, .int .i64 t206, .int .i64 t207, .int .i64 t208, .int .i64 t209, .int .i64 t213]) (ok := fun _ => True) (okp := fun _ => True) ?hr ?hp (fun _ hk => hk) trivial (Below.refl _ _) (Nat.le_refl _) (by simp) ?_; (case hd => rfl); (case hg => rfl); (case hr => first | (go_simp; done) | (go_simp; rfl)); (case hp => exact (Reps.one (show Kd.M (Kd.int .i64) _ _ _ t204 [.int .i64 t204] from rfl) (Reps.one (show Kd.M (Kd.int .i64) _ _ _ t205 [.int .i64 t205] from rfl) (Reps.one (show Kd.M (Kd.int .i64) _ _ _ t206 [.int .i64 t206] from rfl) (Reps.one (show Kd.M (Kd.int .i64) _ _ _ t207 [.int .i64 t207] from rfl) (Reps.one (show Kd.M (Kd.int .i64) _ _ _ t208 [.int .i64 t208] from rfl) (Reps.one (show Kd.M (Kd.int .i64) _ _ _ t209 [.int .i64 t209] from rfl) (Reps.one (show Kd.M (Kd.int .i64) _ _ _ t213 [.int .i64 t213] from rfl) (Reps.none _ _))))))))); intro v215 w36 ho37 hb hg_ hnew_; clear hg_ hnew_; (first | rw [← Ny214.out] at ho37 | (simp only [Int.reduceToNat] at ho37; rw [← Ny214.out] at ho37)); have n0_ := Aside0.mk (Kd.R_elder' (by (with_reducible repeat (first | apply Kd.R_alloc | apply Kd.R_drewN | apply Kd.R_drew)); exact HO212.out) (Kd.R_base ho37) hb); have n1_ := Aside0.mk (Kd.R_lower (Kd.R_new' ho37 (Kd.R_lt (by (with_reducible repeat (first | apply Kd.R_alloc | apply Kd.R_drewN | apply Kd.R_drew)); exact HO212.out))) (below_size (by repeat (first | (with_reducible first | exact HB.out | apply below_alloc | apply pw_below_drewN | apply below_drew1) | exact HB.out)))); have n2_ := Aside0.mk (below_step (by repeat (first | (with_reducible first | exact HB.out | apply below_alloc | apply pw_below_drewN | apply below_drew1) | exact HB.out)) hb); clear HO212; clear HB; have HO212 := n0_; have HO216 := n1_; have HB := n2_; clear n0_ n1_ n2_; clear hb ho37) | (go_at_call 12; (with_reducible refine (cost_Scan.calls a2 t217 _ A19.out).mono ?_); rintro e w38 ⟨rfl, hb⟩; have n0_ := Aside0.mk (Kd.R_below (by (with_reducible repeat (first | apply Kd.R_alloc | apply Kd.R_drewN | apply Kd.R_drew)); exact HO212.out) hb); have n1_ := Aside0.mk (Kd.R_below (by (with_reducible repeat (first | apply Kd.R_alloc | apply Kd.R_drewN | apply Kd.R_drew)); exact HO216.out) hb); have n2_ := Aside0.mk (below_step (by repeat (first | (with_reducible first | exact HB.out | apply below_alloc | apply pw_below_drewN | apply below_drew1) | exact HB.out)) hb); clear HO212; clear HO216; clear HB; have HO212 := n0_; have HO216 := n1_; have HB := n2_; clear n0_ n1_ n2_; (try clear hb); (try clear hb2); (try clear hk); (try clear hi)) | (go_at_call 14; (with_reducible refine (cost_Nest.calls a2 a3 t218 _ A20.out).mono ?_); rintro e w39 ⟨rfl, hb⟩; have n0_ := Aside0.mk (Kd.R_below (by (with_reducible repeat (first | apply Kd.R_alloc | apply Kd.R_drewN | apply Kd.R_drew)); exact HO212.out) hb); have n1_ := Aside0.mk (Kd.R_below (by (with_reducible repeat (first | apply Kd.R_alloc | apply Kd.R_drewN | apply Kd.R_drew)); exact HO216.out) hb); have n2_ := Aside0.mk (below_step (by repeat (first | (with_reducible first | exact HB.out | apply below_alloc | apply pw_below_drewN | apply below_drew1) | exact HB.out)) hb); clear HO212; clear HO216; clear HB; have HO212 := n0_; have HO216 := n1_; have HB := n2_; clear n0_ n1_ n2_; (try clear hb); (try clear hb2); (try clear hk); (try clear hi)) | (go_at_call 16; (with_reducible refine (cost_Hash.calls kj6 a2 a3 t219 _ A21.out).mono ?_); rintro e w40 ⟨rfl, hb⟩; have n0_ := Aside0.mk (Kd.R_below (by (with_reducible repeat (first | apply Kd.R_alloc | apply Kd.R_drewN | apply Kd.R_drew)); exact HO212.out) hb); have n1_ := Aside0.mk (Kd.R_below (by (with_reducible repeat (first | apply Kd.R_alloc | apply Kd.R_drewN | apply Kd.R_drew)); exact HO216.out) hb); have n2_ := Aside0.mk (below_step (by repeat (first | (with_reducible first | exact HB.out | apply below_alloc | apply pw_below_drewN | apply below_drew1) | exact HB.out)) hb); clear HO212; clear HO216; clear HB; have HO212 := n0_; have HO216 := n1_; have HB := n2_; clear n0_ n1_ n2_; (try clear hb); (try clear hb2); (try clear hk); (try clear hi)) | (go_at_call 18; (with_reducible refine (cost_Merge.calls kj6 a2 a3 t220 _ A22.out).mono ?_); rintro e w41 ⟨rfl, hb⟩; have n0_ := Aside0.mk (Kd.R_below (by (with_reducible repeat (first | apply Kd.R_alloc | apply Kd.R_drewN | apply Kd.R_drew)); exact HO212.out) hb); have n1_ := Aside0.mk (Kd.R_below (by (with_reducible repeat (first | apply Kd.R_alloc | apply Kd.R_drewN | apply Kd.R_drew)); exact HO216.out) hb); have n2_ := Aside0.mk (below_step (by repeat (first | (with_reducible first | exact HB.out | apply below_alloc | apply pw_below_drewN | apply below_drew1) | exact HB.out)) hb); clear HO212; clear HO216; clear HB; have HO212 := n0_; have HO216 := n1_; have HB := n2_; clear n0_ n1_ n2_; (try clear hb); (try clear hb2); (try clear hk); (try clear hi)) | (go_at_call 10; (with_reducible refine (cost_Sort.calls a2 t221 _ A23.out).mono ?_); rintro e w42 ⟨rfl, hb⟩; have n0_ := Aside0.mk (Kd.R_below (by (with_reducible repeat (first | apply Kd.R_alloc | apply Kd.R_drewN | apply Kd.R_drew)); exact HO212.out) hb); have n1_ := Aside0.mk (Kd.R_below (by (with_reducible repeat (first | apply Kd.R_alloc | apply Kd.R_drewN | apply Kd.R_drew)); exact HO216.out) hb); have n2_ := Aside0.mk (below_step (by repeat (first | (with_reducible first | exact HB.out | apply below_alloc | apply pw_below_drewN | apply below_drew1) | exact HB.out)) hb); clear HO212; clear HO216; clear HB; have HO212 := n0_; have HO216 := n1_; have HB := n2_; clear n0_ n1_ n2_; (try clear hb); (try clear hb2); (try clear hk); (try clear hi)) | (go_at_call 21; (with_reducible refine (cost_Group.calls a2 a4 t222 _ A24.out).mono ?_); rintro e w43 ⟨rfl, hb⟩; have n0_ := Aside0.mk (Kd.R_below (by (with_reducible repeat (first | apply Kd.R_alloc | apply Kd.R_drewN | apply Kd.R_drew)); exact HO212.out) hb); have n1_ := Aside0.mk (Kd.R_below (by (with_reducible repeat (first | apply Kd.R_alloc | apply Kd.R_drewN | apply Kd.R_drew)); exact HO216.out) hb); have n2_ := Aside0.mk (below_step (by repeat (first | (with_reducible first | exact HB.out | apply below_alloc | apply pw_below_drewN | apply below_drew1) | exact HB.out)) hb); clear HO212; clear HO216; clear HB; have HO212 := n0_; have HO216 := n1_; have HB := n2_; clear n0_ n1_ n2_; (try clear hb); (try clear hb2); (try clear hk); (try clear hi)) | ((with_reducible refine gate_dst (N := 68) rfl ?_); refine Kd.R_lit (Kd.int .i64) _ 3 ?hg (N := 68) ?hd (xs := ([a2, a3] : List Int)) (inner := [.int .i64 a2, .int .i64 a3]) (ok := fun _ => True) (okp := fun _ => True) ?hr ?hp (fun _ hk => hk) trivial (Below.refl _ _) (Nat.le_refl _) (by simp) ?_; (case hd => rfl); (case hg => rfl); (case hr => first | (go_simp; done) | (go_simp; rfl)); (case hp => exact (Reps.one (show Kd.M (Kd.int .i64) _ _ _ a2 [.int .i64 a2] from rfl) (Reps.one (show Kd.M (Kd.int .i64) _ _ _ a3 [.int .i64 a3] from rfl) (Reps.none _ _)))); intro v224 w44 ho45 hb hg_ hnew_; clear hg_ hnew_; (first | rw [← Ny223.out] at ho45 | (simp only [Int.reduceToNat] at ho45; rw [← Ny223.out] at ho45)); have n0_ := Aside0.mk (Kd.R_elder' (by (with_reducible repeat (first | apply Kd.R_alloc | apply Kd.R_drewN | apply Kd.R_drew)); exact HO212.out) (Kd.R_base ho45) hb); have n1_ := Aside0.mk (Kd.R_elder' (by (with_reducible repeat (first | apply Kd.R_alloc | apply Kd.R_drewN | apply Kd.R_drew)); exact HO216.out) (Kd.R_base ho45) hb); have n2_ := Aside0.mk (Kd.R_lower (Kd.R_new' (Kd.R_new' ho45 (Kd.R_lt (by (with_reducible repeat (first | apply Kd.R_alloc | apply Kd.R_drewN | apply Kd.R_drew)); exact HO212.out))) (Kd.R_lt (by (with_reducible repeat (first | apply Kd.R_alloc | apply Kd.R_drewN | apply Kd.R_drew)); exact HO216.out))) (below_size (by repeat (first | (with_reducible first | exact HB.out | apply below_alloc | apply pw_below_drewN | apply below_drew1) | exact HB.out)))); have n3_ := Aside0.mk (below_step (by repeat (first | (with_reducible first | exact HB.out | apply below_alloc | apply pw_below_drewN | apply below_drew1) | exact HB.out)) hb); clear HO212; clear HO216; clear HB; have HO212 := n0_; have HO216 := n1_; have HO225 := n2_; have HB := n3_; clear n0_ n1_ n2_ n3_; clear hb ho45; obtain ⟨Ao46, co46, eo46⟩ := Kd.R_slice HO225.out; subst eo46) | (go_at_call 9; (with_reducible refine (cost_Add.calls kj6 _ _ y223 t226 _ ?side1 ?side2 A25.out).mono ?_); (case side1 => repeat (first | exact (Kd.R_reads' HO225.out).2.2 | (with_reducible refine Kd.C_alloc ?_ _) | (with_reducible refine Kd.C_drewN ?_ _) | (with_reducible refine Kd.C_drew ?_))); (case side2 => exact (Kd.R_reads' HO225.out).2.1); rintro e w47 ⟨rfl, hb⟩; have n0_ := Aside0.mk (Kd.R_below (by (with_reducible repeat (first | apply Kd.R_alloc | apply Kd.R_drewN | apply Kd.R_drew)); exact HO212.out) hb); have n1_ := Aside0.mk (Kd.R_below (by (with_reducible repeat (first | apply Kd.R_alloc | apply Kd.R_drewN | apply Kd.R_drew)); exact HO216.out) hb); have n2_ := Aside0.mk (Kd.R_below (by (with_reducible repeat (first | apply Kd.R_alloc | apply Kd.R_drewN | apply Kd.R_drew)); exact HO225.out) hb); have n3_ := Aside0.mk (below_step (by repeat (first | (with_reducible first | exact HB.out | apply below_alloc | apply pw_below_drewN | apply below_drew1) | exact HB.out)) hb); clear HO212; clear HO216; clear HO225; clear HB; have HO212 := n0_; have HO216 := n1_; have HO225 := n2_; have HB := n3_; clear n0_ n1_ n2_ n3_; (try clear hb); (try clear hb2); (try clear hk); (try clear hi)) | ((with_reducible refine gate_dst (N := 70) rfl ?_); refine Kd.R_lit (Kd.int .i64) _ 3 ?hg (N := 70) ?hd (xs := ([t217, t218, t219, t220, t221, t222, t226] : List Int)) (inner := [.int .i64 t217, .int .i64 t218, .int .i64 t219, .int .i64 t220, .int .i64 t221, .int .i64 t222, .int .i64 t226]) (ok := fun _ => True) (okp := fun _ => True) ?hr ?hp (fun _ hk => hk) trivial (Below.refl _ _) (Nat.le_refl _) (by simp) ?_; (case hd => rfl); (case hg => rfl); (case hr => first | (go_simp; done) | (go_simp; rfl)); (case hp => exact (Reps.one (show Kd.M (Kd.int .i64) _ _ _ t217 [.int .i64 t217] from rfl) (Reps.one (show Kd.M (Kd.int .i64) _ _ _ t218 [.int .i64 t218] from rfl) (Reps.one (show Kd.M (Kd.int .i64) _ _ _ t219 [.int .i64 t219] from rfl) (Reps.one (show Kd.M (Kd.int .i64) _ _ _ t220 [.int .i64 t220] from rfl) (Reps.one (show Kd.M (Kd.int .i64) _ _ _ t221 [.int .i64 t221] from rfl) (Reps.one (show Kd.M (Kd.int .i64) _ _ _ t222 [.int .i64 t222] from rfl) (Reps.one (show Kd.M (Kd.int .i64) _ _ _ t226 [.int .i64 t226] from rfl) (Reps.none _ _))))))))); intro v228 w48 ho49 hb hg_ hnew_; clear hg_ hnew_; (first | rw [← Ny227.out] at ho49 | (simp only [Int.reduceToNat] at ho49; rw [← Ny227.out] at ho49)); have n0_ := Aside0.mk (Kd.R_elder' (by (with_reducible repeat (first | apply Kd.R_alloc | apply Kd.R_drewN | apply Kd.R_drew)); exact HO212.out) (Kd.R_base ho49) hb); have n1_ := Aside0.mk (Kd.R_elder' (by (with_reducible repeat (first | apply Kd.R_alloc | apply Kd.R_drewN | apply Kd.R_drew)); exact HO216.out) (Kd.R_base ho49) hb); have n2_ := Aside0.mk (Kd.R_elder' (by (with_reducible repeat (first | apply Kd.R_alloc | apply Kd.R_drewN | apply Kd.R_drew)); exact HO225.out) (Kd.R_base ho49) hb); have n3_ := Aside0.mk (Kd.R_lower (Kd.R_new' (Kd.R_new' (Kd.R_new' ho49 (Kd.R_lt (by (with_reducible repeat (first | apply Kd.R_alloc | apply Kd.R_drewN | apply Kd.R_drew)); exact HO212.out))) (Kd.R_lt (by (with_reducible repeat (first | apply Kd.R_alloc | apply Kd.R_drewN | apply Kd.R_drew)); exact HO216.out))) (Kd.R_lt (by (with_reducible repeat (first | apply Kd.R_alloc | apply Kd.R_drewN | apply Kd.R_drew)); exact HO225.out))) (below_size (by repeat (first | (with_reducible first | exact HB.out | apply below_alloc | apply pw_below_drewN | apply below_drew1) | exact HB.out)))); have n4_ := Aside0.mk (below_step (by repeat (first | (with_reducible first | exact HB.out | apply below_alloc | apply pw_below_drewN | apply below_drew1) | exact HB.out)) hb); clear HO212; clear HO216; clear HO225; clear HB; have HO212 := n0_; have HO216 := n1_; have HO225 := n2_; have HO229 := n3_; have HB := n4_; clear n0_ n1_ n2_ n3_ n4_; clear hb ho49)))
        go_loopg [14] kj6 (fun kq v14 w' => ∃ (x14_2 : Int), v14 = .int .i64 x14_2 ∧ Aside0 (roadbooklaw10_CostMore.l0 kq y214 y227 x14_2 = some r) ∧ Aside0 (kq ≤ kj6) ∧ Aside0 (Kd.R (Kd.int .i64) 3 w' w.heap.size (fun k_ => some k_ ≠ (v228 : Value).ownBlock) v215 y214) ∧ Aside0 (Kd.R (Kd.int .i64) 3 w' w.heap.size (fun k_ => some k_ ≠ (v215 : Value).ownBlock) v228 y227) ∧ Aside0 (Below w.heap.size w w'))
        case atStart => exact ⟨(0), (by first | rfl | (simp; done) | (simp [*]; done)), H', ⟨Nat.le_refl _⟩, ⟨by (with_reducible repeat (first | apply Kd.R_alloc | apply Kd.R_drewN | apply Kd.R_drew)); exact Kd.R_mono HO216.out (fun _ hk => hk.2)⟩, ⟨by (with_reducible repeat (first | apply Kd.R_alloc | apply Kd.R_drewN | apply Kd.R_drew)); exact Kd.R_mono HO229.out (fun _ hk => hk.1.2)⟩, ⟨by repeat (first | (with_reducible first | exact HB.out | apply below_alloc | apply pw_below_drewN | apply below_drew1) | exact HB.out)⟩⟩
        case round =>
          clear H'
          try clear c1
          try clear p2
          try clear c6
          try clear c9
          try clear c10
          try clear c10b0
          try clear c11
          try clear p2
          obtain ⟨x14_2, rfl, HA, HK2, HO_12, HO_13, HB⟩ := hrel
          cases gk with
          | zero => exact absurd HA.out (by simp [roadbooklaw10_CostMore.l0])
          | succ k2 =>
            have H := HA.out
            clear HA
            simp only [roadbooklaw10_CostMore.l0] at H
            by_cases c50 : x14_2 < (y214.length : Int)
            · rw [if_pos c50] at H
              have c50b0 : decide (x14_2 < (y214.length : Int)) = true := decide_eq_true c50
              clear c50
              by_cases c51 : 0 ≤ x14_2
              · rw [if_pos c51] at H
                have c51b0 : decide (0 ≤ x14_2) = true := decide_eq_true c51
                clear c51
                by_cases c52 : x14_2 < (y227.length : Int)
                · rw [if_pos c52] at H
                  have c52b0 : decide (x14_2 < (y227.length : Int)) = true := decide_eq_true c52
                  clear c52
                  by_cases c53 : (rd y214 x14_2) > (rd y227 x14_2)
                  · rw [if_pos c53] at H
                    have c53b0 : decide ((rd y227 x14_2) < (rd y214 x14_2)) = true := decide_eq_true c53
                    clear c53
                    obtain rfl := Option.some.inj H
                    obtain ⟨Ao54, co54, eo54⟩ := Kd.R_slice HO_12.out
                    subst eo54
                    have p230 : 0 ≤ (x14_2 : Int) := of_decide_eq_true (by first | (with_reducible assumption) | assumption)
                    have q230 : x14_2 < (y214.length : Int) := of_decide_eq_true (by first | (with_reducible assumption) | assumption)
                    obtain ⟨ad230, e230, hx230_0⟩ := Kd.at_int (Kd.R_reads' HO_12.out).2.2 x14_2 p230 q230
                    cases e230
                    replace p230 := eq_true p230
                    replace q230 := eq_true q230
                    obtain ⟨Ao55, co55, eo55⟩ := Kd.R_slice HO_13.out
                    subst eo55
                    have p231 : 0 ≤ (x14_2 : Int) := of_decide_eq_true (by first | (with_reducible assumption) | assumption)
                    have q231 : x14_2 < (y227.length : Int) := of_decide_eq_true (by first | (with_reducible assumption) | assumption)
                    obtain ⟨ad231, e231, hx231_0⟩ := Kd.at_int (Kd.R_reads' HO_13.out).2.2 x14_2 p231 q231
                    cases e231
                    replace p231 := eq_true p231
                    replace q231 := eq_true q231
                    go_wp2
                    repeat (go_quiet (fail); try go_wp2)
                    go_ret
                    exact ⟨by first | rfl | (simp [errW_none, errW_some] <;> rfl) | (simp [*, errW_none, errW_some] <;> rfl), by repeat (first | (with_reducible first | exact HB.out | apply below_alloc | apply pw_below_drewN | apply below_drew1) | exact HB.out)⟩
                  · rw [if_neg c53] at H
                    have c53b0 : decide ((rd y227 x14_2) < (rd y214 x14_2)) = false := decide_eq_false c53
                    clear c53
                    by_cases c56 : (rd y214 x14_2) < 0
                    · rw [if_pos c56] at H
                      have c56b0 : decide ((rd y214 x14_2) < 0) = true := decide_eq_true c56
                      clear c56
                      obtain rfl := Option.some.inj H
                      obtain ⟨Ao57, co57, eo57⟩ := Kd.R_slice HO_12.out
                      subst eo57
                      have p230 : 0 ≤ (x14_2 : Int) := of_decide_eq_true (by first | (with_reducible assumption) | assumption)
                      have q230 : x14_2 < (y214.length : Int) := of_decide_eq_true (by first | (with_reducible assumption) | assumption)
                      obtain ⟨ad230, e230, hx230_0⟩ := Kd.at_int (Kd.R_reads' HO_12.out).2.2 x14_2 p230 q230
                      cases e230
                      replace p230 := eq_true p230
                      replace q230 := eq_true q230
                      obtain ⟨Ao58, co58, eo58⟩ := Kd.R_slice HO_13.out
                      subst eo58
                      have p231 : 0 ≤ (x14_2 : Int) := of_decide_eq_true (by first | (with_reducible assumption) | assumption)
                      have q231 : x14_2 < (y227.length : Int) := of_decide_eq_true (by first | (with_reducible assumption) | assumption)
                      obtain ⟨ad231, e231, hx231_0⟩ := Kd.at_int (Kd.R_reads' HO_13.out).2.2 x14_2 p231 q231
                      cases e231
                      replace p231 := eq_true p231
                      replace q231 := eq_true q231
                      have p232 : 0 ≤ (x14_2 : Int) := of_decide_eq_true (by first | (with_reducible assumption) | assumption)
                      have q232 : x14_2 < (y214.length : Int) := of_decide_eq_true (by first | (with_reducible assumption) | assumption)
                      obtain ⟨ad232, e232, hx232_0⟩ := Kd.at_int (Kd.R_reads' HO_12.out).2.2 x14_2 p232 q232
                      obtain rfl : ad230 = ad232 := (by injection e232)
                      replace p232 := eq_true p232
                      replace q232 := eq_true q232
                      go_wp2
                      repeat (go_quiet (fail); try go_wp2)
                      go_ret
                      exact ⟨by first | rfl | (simp [errW_none, errW_some] <;> rfl) | (simp [*, errW_none, errW_some] <;> rfl), by repeat (first | (with_reducible first | exact HB.out | apply below_alloc | apply pw_below_drewN | apply below_drew1) | exact HB.out)⟩
                    · rw [if_neg c56] at H
                      have c56b0 : decide ((rd y214 x14_2) < 0) = false := decide_eq_false c56
                      clear c56
                      by_cases c59 : (rd y227 x14_2) > 1125899906842624
                      · rw [if_pos c59] at H
                        have c59b0 : decide (1125899906842624 < (rd y227 x14_2)) = true := decide_eq_true c59
                        clear c59
                        obtain rfl := Option.some.inj H
                        obtain ⟨Ao60, co60, eo60⟩ := Kd.R_slice HO_12.out
                        subst eo60
                        have p230 : 0 ≤ (x14_2 : Int) := of_decide_eq_true (by first | (with_reducible assumption) | assumption)
                        have q230 : x14_2 < (y214.length : Int) := of_decide_eq_true (by first | (with_reducible assumption) | assumption)
                        obtain ⟨ad230, e230, hx230_0⟩ := Kd.at_int (Kd.R_reads' HO_12.out).2.2 x14_2 p230 q230
                        cases e230
                        replace p230 := eq_true p230
                        replace q230 := eq_true q230
                        obtain ⟨Ao61, co61, eo61⟩ := Kd.R_slice HO_13.out
                        subst eo61
                        have p231 : 0 ≤ (x14_2 : Int) := of_decide_eq_true (by first | (with_reducible assumption) | assumption)
                        have q231 : x14_2 < (y227.length : Int) := of_decide_eq_true (by first | (with_reducible assumption) | assumption)
                        obtain ⟨ad231, e231, hx231_0⟩ := Kd.at_int (Kd.R_reads' HO_13.out).2.2 x14_2 p231 q231
                        cases e231
                        replace p231 := eq_true p231
                        replace q231 := eq_true q231
                        have p232 : 0 ≤ (x14_2 : Int) := of_decide_eq_true (by first | (with_reducible assumption) | assumption)
                        have q232 : x14_2 < (y214.length : Int) := of_decide_eq_true (by first | (with_reducible assumption) | assumption)
                        obtain ⟨ad232, e232, hx232_0⟩ := Kd.at_int (Kd.R_reads' HO_12.out).2.2 x14_2 p232 q232
                        obtain rfl : ad230 = ad232 := (by injection e232)
                        replace p232 := eq_true p232
                        replace q232 := eq_true q232
                        have p233 : 0 ≤ (x14_2 : Int) := of_decide_eq_true (by first | (with_reducible assumption) | assumption)
                        have q233 : x14_2 < (y227.length : Int) := of_decide_eq_true (by first | (with_reducible assumption) | assumption)
                        obtain ⟨ad233, e233, hx233_0⟩ := Kd.at_int (Kd.R_reads' HO_13.out).2.2 x14_2 p233 q233
                        obtain rfl : ad231 = ad233 := (by injection e233)
                        replace p233 := eq_true p233
                        replace q233 := eq_true q233
                        go_wp2
                        repeat (go_quiet (fail); try go_wp2)
                        go_ret
                        exact ⟨by first | rfl | (simp [errW_none, errW_some] <;> rfl) | (simp [*, errW_none, errW_some] <;> rfl), by repeat (first | (with_reducible first | exact HB.out | apply below_alloc | apply pw_below_drewN | apply below_drew1) | exact HB.out)⟩
                      · rw [if_neg c59] at H
                        have c59b0 : decide (1125899906842624 < (rd y227 x14_2)) = false := decide_eq_false c59
                        clear c59
                        have H' := Aside0.mk H
                        clear H
                        obtain ⟨Ao62, co62, eo62⟩ := Kd.R_slice HO_12.out
                        subst eo62
                        have p230 : 0 ≤ (x14_2 : Int) := of_decide_eq_true (by first | (with_reducible assumption) | assumption)
                        have q230 : x14_2 < (y214.length : Int) := of_decide_eq_true (by first | (with_reducible assumption) | assumption)
                        obtain ⟨ad230, e230, hx230_0⟩ := Kd.at_int (Kd.R_reads' HO_12.out).2.2 x14_2 p230 q230
                        cases e230
                        replace p230 := eq_true p230
                        replace q230 := eq_true q230
                        obtain ⟨Ao63, co63, eo63⟩ := Kd.R_slice HO_13.out
                        subst eo63
                        have p231 : 0 ≤ (x14_2 : Int) := of_decide_eq_true (by first | (with_reducible assumption) | assumption)
                        have q231 : x14_2 < (y227.length : Int) := of_decide_eq_true (by first | (with_reducible assumption) | assumption)
                        obtain ⟨ad231, e231, hx231_0⟩ := Kd.at_int (Kd.R_reads' HO_13.out).2.2 x14_2 p231 q231
                        cases e231
                        replace p231 := eq_true p231
                        replace q231 := eq_true q231
                        have p232 : 0 ≤ (x14_2 : Int) := of_decide_eq_true (by first | (with_reducible assumption) | assumption)
                        have q232 : x14_2 < (y214.length : Int) := of_decide_eq_true (by first | (with_reducible assumption) | assumption)
                        obtain ⟨ad232, e232, hx232_0⟩ := Kd.at_int (Kd.R_reads' HO_12.out).2.2 x14_2 p232 q232
                        obtain rfl : ad230 = ad232 := (by injection e232)
                        replace p232 := eq_true p232
                        replace q232 := eq_true q232
                        have p233 : 0 ≤ (x14_2 : Int) := of_decide_eq_true (by first | (with_reducible assumption) | assumption)
                        have q233 : x14_2 < (y227.length : Int) := of_decide_eq_true (by first | (with_reducible assumption) | assumption)
                        obtain ⟨ad233, e233, hx233_0⟩ := Kd.at_int (Kd.R_reads' HO_13.out).2.2 x14_2 p233 q233
                        obtain rfl : ad231 = ad233 := (by injection e233)
                        replace p233 := eq_true p233
                        replace q233 := eq_true q233
                        go_wp2
                        repeat (go_quiet (fail); try go_wp2)
                        go_roundg k2
                        case measure => have := HJ6.out; have := HK2.out; omega
                        case rel => exact ⟨(wrap64 (x14_2 + 1)), (by first | rfl | (simp; done) | (simp [*]; done)), H', ⟨by have := HJ6.out; have := HK2.out; omega⟩, ⟨by (with_reducible repeat (first | apply Kd.R_alloc | apply Kd.R_drewN | apply Kd.R_drew)); exact HO_12.out⟩, ⟨by (with_reducible repeat (first | apply Kd.R_alloc | apply Kd.R_drewN | apply Kd.R_drew)); exact HO_13.out⟩, ⟨by repeat (first | (with_reducible first | exact HB.out | apply below_alloc | apply pw_below_drewN | apply below_drew1) | exact HB.out)⟩⟩
                · rw [if_neg c52] at H
                  exact absurd H (by simp)
              · rw [if_neg c51] at H
                exact absurd H (by simp)
            · rw [if_neg c50] at H
              have c50b0 : decide (x14_2 < (y214.length : Int)) = false := decide_eq_false c50
              clear c50
              obtain rfl := Option.some.inj H
              obtain ⟨Ao64, co64, eo64⟩ := Kd.R_slice HO_12.out
              subst eo64
              go_wp2
              repeat (go_quiet (fail); try go_wp2)
              go_ret
              exact ⟨by first | rfl | (simp [errW_none, errW_some] <;> rfl) | (simp [*, errW_none, errW_some] <;> rfl), by repeat (first | (with_reducible first | exact HB.out | apply below_alloc | apply pw_below_drewN | apply below_drew1) | exact HB.out)⟩

/-- THE ONE PURE STATEMENT of roadbooklaw10_CostMore: yours. -/
def roadbooklaw10_CostMore.Pure : Prop := ∀ (a0 : Int) (a1 : Int) (a2 : Int) (a3 : Int) (a4 : Bool), (Lit.int .i64 a0).wf = true → (Lit.int .i64 a1).wf = true → (Lit.int .i64 a2).wf = true → (Lit.int .i64 a3).wf = true → ∃ k, roadbooklaw10_CostMore.f k a0 a1 a2 a3 a4 = some true
theorem roadbooklaw10_CostMore.walk (P : roadbooklaw10_CostMore.Pure) (a0 : Int) (a1 : Int) (a2 : Int) (a3 : Int) (a4 : Bool) (w : World) (w0 : (Lit.int .i64 a0).wf = true) (w1 : (Lit.int .i64 a1).wf = true) (w2 : (Lit.int .i64 a2).wf = true) (w3 : (Lit.int .i64 a3).wf = true) :
    Calls Try.prog 6 #[.int .i64 a0, .int .i64 a1, .int .i64 a2, .int .i64 a3, .bool a4] w fun e w' => e = .returned (.bool true) ∧ Below w.heap.size w w' := by
  obtain ⟨k, h⟩ := P a0 a1 a2 a3 a4 w0 w1 w2 w3
  refine (roadbooklaw10_CostMore.calls k a0 a1 a2 a3 a4 true w h).mono ?_
  rintro e w' ⟨rfl, hd⟩
  exact ⟨rfl, hd⟩

/-! ### roadbooklaw10_a1: function 23 -/
def roadbooklaw10_a1.f (a0 : Int) : Option (Int) := (cost_Scan.f a0).bind fun t234 => (some t234)
set_option maxHeartbeats 8000000 in
set_option maxRecDepth 100000 in
theorem roadbooklaw10_a1.calls (a0 : Int) (r : Int) (w : World) (h : roadbooklaw10_a1.f a0 = some r) :
    Calls Try.prog 23 #[.int .i64 a0] w fun e w' => e = .returned (.int .i64 r) ∧ Below w.heap.size w w' := by
  have HB := Aside0.mk (Below.refl w.heap.size w)
  have H : ((cost_Scan.f a0).bind fun t234 => (some t234)) = some r := h
  clear h
  replace H := Option.bind_eq_some_iff.mp H
  obtain ⟨t234, A20, H⟩ := H
  replace H : (some t234) = some r := H
  have A2 := Aside0.mk A20
  clear A20
  obtain rfl := Option.some.inj H
  go_enter Try.func23, Try.ntmps23
  go_wp2_with (first | ((with_reducible refine gate_callee (f := 12) rfl ?_); refine goesL_ (some 4) rfl rfl Try.func12 (by kernel_rfl) rfl #[.int .i64 a0] rfl (by (try simp only [List.map_toArray, List.map_cons, List.map_nil]); first | done | rfl | (simp only [List.length_drop, List.length_take]; rfl)) ?_; (with_reducible refine (cost_Scan.calls a0 t234 _ A2.out).mono ?_); rintro e w3 ⟨rfl, hb⟩; refine ⟨_, rfl, ?_⟩; have n0_ := Aside0.mk (below_step (by repeat (first | (with_reducible first | exact HB.out | apply below_alloc | apply pw_below_drewN | apply below_drew1) | exact HB.out)) hb); clear HB; have HB := n0_; clear n0_; (try clear hb); (try clear hb2); (try clear hk); (try clear hi)))
  go_ret
  exact ⟨by first | rfl | (simp [errW_none, errW_some] <;> rfl) | (simp [*, errW_none, errW_some] <;> rfl), by repeat (first | (with_reducible first | exact HB.out | apply below_alloc | apply pw_below_drewN | apply below_drew1) | exact HB.out)⟩

end Go.Proofs.Ytogancfhameniaa.Cost
