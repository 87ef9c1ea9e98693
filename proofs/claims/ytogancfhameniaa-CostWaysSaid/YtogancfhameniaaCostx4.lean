/- Functions of the program as plain Lean functions, and proofs that the calls do what these say; written for this claim by a program of the session (wip/tools/mkprint.py), checked by Lean. -/
import Derived.Test.YtogancfhameniaaCostx0
import Derived.Test.YtogancfhameniaaCostx1
import Derived.Test.YtogancfhameniaaCostx2
import Derived.Test.YtogancfhameniaaCostx3
namespace Go.Proofs.Ytogancfhameniaa.Cost
open Go.RowKit Go.Proofs.YtogancfhameniaaW.PrintWords Go.Proofs.YtogancfhameniaaW.PrintLast Go.Proofs.YtogancfhameniaaW.PrintMore
attribute [local go_sem] max2_int min2_int max_two min_two max_three min_three max_four min_four   -- for this text's walks alone
set_option linter.unusedVariables false
set_option linter.unusedSimpArgs false

/-! ### roadbooklaw10_CostWays: function 7 -/
def roadbooklaw10_CostWays.j0 : Nat → Int → Bool → Option (Bool)
  | 0, _, _ => none
  | k + 1, x0, x47 => if x47 = true then (some false) else ((cost_Sort.f x0).bind fun t244 => ((cost_Scan.f x0).bind fun t245 => (if t244 ≥ t245 then ((cost_Group.f x0 true).bind fun t246 => ((roadbooklaw10_a1.f x0).bind fun t247 => ((roadbooklaw10_a1.f x0).bind fun t247 => ((cost_Add.f k (([t247, t247] : List Int))).bind fun t251 => (if t246 = t251 then ((cost_Group.f x0 false).bind fun t252 => ((cost_Scan.f x0).bind fun t245 => (some (t252 == t245)))) else (some false)))))) else (some false))))
def roadbooklaw10_CostWays.f (k : Nat) (a0 : Int) (a1 : Int) : Option (Bool) := (roadbooklaw10_awake.f k).bind fun t235 => (if t235 = true then ((cost_Merge.f k a0 a1).bind fun t236 => ((cost_Hash.f k a0 a1).bind fun t237 => (if t236 > t237 then (roadbooklaw10_CostWays.j0 k a0 true) else ((cost_Nest.f a0 1).bind fun t238 => ((cost_Scan.f a0).bind fun t239 => (if t238 = t239 then ((cost_Nest.f a0 0).bind fun t240 => (if t240 = 0 then ((cost_Nest.f a0 a1).bind fun t241 => ((cost_Nest.f a1 a0).bind fun t242 => (if t241 = t242 then ((cost_Merge.f k a0 a1).bind fun t236 => ((cost_Merge.f k a1 a0).bind fun t243 => (roadbooklaw10_CostWays.j0 k a0 (t236 != t243)))) else (roadbooklaw10_CostWays.j0 k a0 true)))) else (roadbooklaw10_CostWays.j0 k a0 true))) else (roadbooklaw10_CostWays.j0 k a0 true))))))) else (roadbooklaw10_CostWays.j0 k a0 true))
theorem roadbooklaw10_CostWays.mono_l : ∀ k, (∀ y0 y1, LeO (roadbooklaw10_CostWays.j0 k y0 y1) (roadbooklaw10_CostWays.j0 (k + 1) y0 y1))
  | 0 => fun _ _ r h => by simp [roadbooklaw10_CostWays.j0] at h
  | k + 1 => by
    have ih0 := roadbooklaw10_CostWays.mono_l k
    · intro y0 y1
      unfold roadbooklaw10_CostWays.j0
      repeat' first
      | (with_reducible exact ih0 _ _)
      | (with_reducible exact cost_Add.mono _ _)
      | (with_reducible exact cost_Hash.mono _ _ _)
      | (with_reducible exact cost_Merge.mono _ _ _)
      | (with_reducible exact roadbooklaw10_awake.mono _)
      | (with_reducible exact LeO.refl _)
      | (with_reducible exact LeO.none _)
      | (with_reducible refine LeO.ite ?_ ?_)
      | (with_reducible refine LeO.bind ?_ (fun _ => ?_))
      | exact ih0 _ _
      | exact cost_Add.mono _ _
      | exact cost_Hash.mono _ _ _
      | exact cost_Merge.mono _ _ _
      | exact roadbooklaw10_awake.mono _
      | exact LeO.none _
      | refine LeO.ite ?_ ?_
      | refine LeO.bind ?_ (fun _ => ?_)
theorem roadbooklaw10_CostWays.mono : ∀ a0 a1 k, LeO (roadbooklaw10_CostWays.f k a0 a1) (roadbooklaw10_CostWays.f (k + 1) a0 a1) := by
  intro a0 a1 k
  have ih0 := roadbooklaw10_CostWays.mono_l k
  unfold roadbooklaw10_CostWays.f
  repeat' first
      | (with_reducible exact ih0 _ _)
      | (with_reducible exact cost_Add.mono _ _)
      | (with_reducible exact cost_Hash.mono _ _ _)
      | (with_reducible exact cost_Merge.mono _ _ _)
      | (with_reducible exact roadbooklaw10_awake.mono _)
      | (with_reducible exact LeO.refl _)
      | (with_reducible exact LeO.none _)
      | (with_reducible refine LeO.ite ?_ ?_)
      | (with_reducible refine LeO.bind ?_ (fun _ => ?_))
      | exact ih0 _ _
      | exact cost_Add.mono _ _
      | exact cost_Hash.mono _ _ _
      | exact cost_Merge.mono _ _ _
      | exact roadbooklaw10_awake.mono _
      | exact LeO.none _
      | refine LeO.ite ?_ ?_
      | refine LeO.bind ?_ (fun _ => ?_)
set_option maxHeartbeats 8000000 in
set_option maxRecDepth 100000 in
theorem roadbooklaw10_CostWays.calls (k : Nat) (a0 : Int) (a1 : Int) (r : Bool) (w : World) (h : roadbooklaw10_CostWays.f k a0 a1 = some r) :
    Calls Try.prog 7 #[.int .i64 a0, .int .i64 a1] w fun e w' => e = .returned (.bool r) ∧ Below w.heap.size w w' := by
  have HB := Aside0.mk (Below.refl w.heap.size w)
  have H : ((roadbooklaw10_awake.f k).bind fun t235 => (if t235 = true then ((cost_Merge.f k a0 a1).bind fun t236 => ((cost_Hash.f k a0 a1).bind fun t237 => (if t236 > t237 then (roadbooklaw10_CostWays.j0 k a0 true) else ((cost_Nest.f a0 1).bind fun t238 => ((cost_Scan.f a0).bind fun t239 => (if t238 = t239 then ((cost_Nest.f a0 0).bind fun t240 => (if t240 = 0 then ((cost_Nest.f a0 a1).bind fun t241 => ((cost_Nest.f a1 a0).bind fun t242 => (if t241 = t242 then ((cost_Merge.f k a0 a1).bind fun t236 => ((cost_Merge.f k a1 a0).bind fun t243 => (roadbooklaw10_CostWays.j0 k a0 (t236 != t243)))) else (roadbooklaw10_CostWays.j0 k a0 true)))) else (roadbooklaw10_CostWays.j0 k a0 true))) else (roadbooklaw10_CostWays.j0 k a0 true))))))) else (roadbooklaw10_CostWays.j0 k a0 true))) = some r := h
  clear h
  replace H := Option.bind_eq_some_iff.mp H
  obtain ⟨t235, A30, H⟩ := H
  replace H : (if t235 = true then ((cost_Merge.f k a0 a1).bind fun t236 => ((cost_Hash.f k a0 a1).bind fun t237 => (if t236 > t237 then (roadbooklaw10_CostWays.j0 k a0 true) else ((cost_Nest.f a0 1).bind fun t238 => ((cost_Scan.f a0).bind fun t239 => (if t238 = t239 then ((cost_Nest.f a0 0).bind fun t240 => (if t240 = 0 then ((cost_Nest.f a0 a1).bind fun t241 => ((cost_Nest.f a1 a0).bind fun t242 => (if t241 = t242 then ((cost_Merge.f k a0 a1).bind fun t236 => ((cost_Merge.f k a1 a0).bind fun t243 => (roadbooklaw10_CostWays.j0 k a0 (t236 != t243)))) else (roadbooklaw10_CostWays.j0 k a0 true)))) else (roadbooklaw10_CostWays.j0 k a0 true))) else (roadbooklaw10_CostWays.j0 k a0 true))))))) else (roadbooklaw10_CostWays.j0 k a0 true)) = some r := H
  have A3 := Aside0.mk A30
  clear A30
  have HC4 := Aside0.mk H
  clear H
  go_enter Try.func7, Try.ntmps7
  go_upto_region 2 with (first | ((with_reducible refine gate_callee (f := 8) rfl ?_); refine goesL_ (some 6) rfl rfl Try.func8 (by kernel_rfl) rfl #[] rfl (by (try simp only [List.map_toArray, List.map_cons, List.map_nil]); first | done | rfl | (simp only [List.length_drop, List.length_take]; rfl)) ?_; (with_reducible refine (roadbooklaw10_awake.calls k  t235 _ A3.out).mono ?_); rintro e w5 ⟨rfl, hb⟩; refine ⟨_, rfl, ?_⟩; have n0_ := Aside0.mk (below_step (by repeat (first | (with_reducible first | exact HB.out | apply below_alloc | apply pw_below_drewN | apply below_drew1) | exact HB.out)) hb); clear HB; have HB := n0_; clear n0_; (try clear hb); (try clear hb2); (try clear hk); (try clear hi)))
  (try simp only [Act.put, List.setIfInBounds_toArray, List.set_cons_zero, List.set_cons_succ])
  go_cut [47] (fun v47 wc => ∃ (kq : Nat) (x47_3 : Bool), v47 = .bool x47_3 ∧ Aside0 (roadbooklaw10_CostWays.j0 kq a0 x47_3 = some r) ∧ Aside0 (kq ≤ k) ∧ Aside0 (Below w.heap.size w wc))
  case first =>
    have H := HC4.out
    clear HC4
    by_cases c6 : t235 = true
    · subst c6
      have H1 : ((cost_Merge.f k a0 a1).bind fun t236 => ((cost_Hash.f k a0 a1).bind fun t237 => (if t236 > t237 then (roadbooklaw10_CostWays.j0 k a0 true) else ((cost_Nest.f a0 1).bind fun t238 => ((cost_Scan.f a0).bind fun t239 => (if t238 = t239 then ((cost_Nest.f a0 0).bind fun t240 => (if t240 = 0 then ((cost_Nest.f a0 a1).bind fun t241 => ((cost_Nest.f a1 a0).bind fun t242 => (if t241 = t242 then ((cost_Merge.f k a0 a1).bind fun t236 => ((cost_Merge.f k a1 a0).bind fun t243 => (roadbooklaw10_CostWays.j0 k a0 (t236 != t243)))) else (roadbooklaw10_CostWays.j0 k a0 true)))) else (roadbooklaw10_CostWays.j0 k a0 true))) else (roadbooklaw10_CostWays.j0 k a0 true))))))) = some r := by rw [if_pos rfl] at H; exact H
      clear H
      have H := H1
      clear H1
      replace H := Option.bind_eq_some_iff.mp H
      obtain ⟨t236, A70, H⟩ := H
      replace H : ((cost_Hash.f k a0 a1).bind fun t237 => (if t236 > t237 then (roadbooklaw10_CostWays.j0 k a0 true) else ((cost_Nest.f a0 1).bind fun t238 => ((cost_Scan.f a0).bind fun t239 => (if t238 = t239 then ((cost_Nest.f a0 0).bind fun t240 => (if t240 = 0 then ((cost_Nest.f a0 a1).bind fun t241 => ((cost_Nest.f a1 a0).bind fun t242 => (if t241 = t242 then ((cost_Merge.f k a0 a1).bind fun t236 => ((cost_Merge.f k a1 a0).bind fun t243 => (roadbooklaw10_CostWays.j0 k a0 (t236 != t243)))) else (roadbooklaw10_CostWays.j0 k a0 true)))) else (roadbooklaw10_CostWays.j0 k a0 true))) else (roadbooklaw10_CostWays.j0 k a0 true)))))) = some r := H
      have A7 := Aside0.mk A70
      clear A70
      replace H := Option.bind_eq_some_iff.mp H
      obtain ⟨t237, A80, H⟩ := H
      replace H : (if t236 > t237 then (roadbooklaw10_CostWays.j0 k a0 true) else ((cost_Nest.f a0 1).bind fun t238 => ((cost_Scan.f a0).bind fun t239 => (if t238 = t239 then ((cost_Nest.f a0 0).bind fun t240 => (if t240 = 0 then ((cost_Nest.f a0 a1).bind fun t241 => ((cost_Nest.f a1 a0).bind fun t242 => (if t241 = t242 then ((cost_Merge.f k a0 a1).bind fun t236 => ((cost_Merge.f k a1 a0).bind fun t243 => (roadbooklaw10_CostWays.j0 k a0 (t236 != t243)))) else (roadbooklaw10_CostWays.j0 k a0 true)))) else (roadbooklaw10_CostWays.j0 k a0 true))) else (roadbooklaw10_CostWays.j0 k a0 true))))) = some r := H
      have A8 := Aside0.mk A80
      clear A80
      by_cases c9 : t236 > t237
      · rw [if_pos c9] at H
        have c9b0 : decide (t237 < t236) = true := decide_eq_true c9
        clear c9
        (first | rw [c9b0] | (simp only [i64_w, i32_w]; rw [c9b0]) | skip)
        have H' := Aside0.mk H
        clear H
        go_wp2_with (first | (go_at_call 18; (with_reducible refine (cost_Merge.calls k a0 a1 t236 _ A7.out).mono ?_); rintro e w10 ⟨rfl, hb⟩; have n0_ := Aside0.mk (below_step (by repeat (first | (with_reducible first | exact HB.out | apply below_alloc | apply pw_below_drewN | apply below_drew1) | exact HB.out)) hb); clear HB; have HB := n0_; clear n0_; (try clear hb); (try clear hb2); (try clear hk); (try clear hi)) | (go_at_call 16; (with_reducible refine (cost_Hash.calls k a0 a1 t237 _ A8.out).mono ?_); rintro e w11 ⟨rfl, hb⟩; have n0_ := Aside0.mk (below_step (by repeat (first | (with_reducible first | exact HB.out | apply below_alloc | apply pw_below_drewN | apply below_drew1) | exact HB.out)) hb); clear HB; have HB := n0_; clear n0_; (try clear hb); (try clear hb2); (try clear hk); (try clear hi)))
        go_meet
        case rel => exact ⟨_, (true), (by first | rfl | (simp; done) | (simp [*]; done)), H', ⟨by first | omega | exact Nat.le_refl _⟩, ⟨by repeat (first | (with_reducible first | exact HB.out | apply below_alloc | apply pw_below_drewN | apply below_drew1) | exact HB.out)⟩⟩
      · rw [if_neg c9] at H
        have c9b0 : decide (t237 < t236) = false := decide_eq_false c9
        clear c9
        (first | rw [c9b0] | (simp only [i64_w, i32_w]; rw [c9b0]) | skip)
        replace H := Option.bind_eq_some_iff.mp H
        obtain ⟨t238, A120, H⟩ := H
        replace H : ((cost_Scan.f a0).bind fun t239 => (if t238 = t239 then ((cost_Nest.f a0 0).bind fun t240 => (if t240 = 0 then ((cost_Nest.f a0 a1).bind fun t241 => ((cost_Nest.f a1 a0).bind fun t242 => (if t241 = t242 then ((cost_Merge.f k a0 a1).bind fun t236 => ((cost_Merge.f k a1 a0).bind fun t243 => (roadbooklaw10_CostWays.j0 k a0 (t236 != t243)))) else (roadbooklaw10_CostWays.j0 k a0 true)))) else (roadbooklaw10_CostWays.j0 k a0 true))) else (roadbooklaw10_CostWays.j0 k a0 true))) = some r := H
        have A12 := Aside0.mk A120
        clear A120
        replace H := Option.bind_eq_some_iff.mp H
        obtain ⟨t239, A130, H⟩ := H
        replace H : (if t238 = t239 then ((cost_Nest.f a0 0).bind fun t240 => (if t240 = 0 then ((cost_Nest.f a0 a1).bind fun t241 => ((cost_Nest.f a1 a0).bind fun t242 => (if t241 = t242 then ((cost_Merge.f k a0 a1).bind fun t236 => ((cost_Merge.f k a1 a0).bind fun t243 => (roadbooklaw10_CostWays.j0 k a0 (t236 != t243)))) else (roadbooklaw10_CostWays.j0 k a0 true)))) else (roadbooklaw10_CostWays.j0 k a0 true))) else (roadbooklaw10_CostWays.j0 k a0 true)) = some r := H
        have A13 := Aside0.mk A130
        clear A130
        by_cases c14 : t238 = t239
        · rw [if_pos c14] at H
          have c14b0 : (t238 == t239) = true := beq_iff_eq.mpr c14
          have c14b1 : (t238 != t239) = false := bne_eq_false_iff_eq.mpr c14
          clear c14
          replace H := Option.bind_eq_some_iff.mp H
          obtain ⟨t240, A150, H⟩ := H
          replace H : (if t240 = 0 then ((cost_Nest.f a0 a1).bind fun t241 => ((cost_Nest.f a1 a0).bind fun t242 => (if t241 = t242 then ((cost_Merge.f k a0 a1).bind fun t236 => ((cost_Merge.f k a1 a0).bind fun t243 => (roadbooklaw10_CostWays.j0 k a0 (t236 != t243)))) else (roadbooklaw10_CostWays.j0 k a0 true)))) else (roadbooklaw10_CostWays.j0 k a0 true)) = some r := H
          have A15 := Aside0.mk A150
          clear A150
          by_cases c16 : t240 = 0
          · rw [if_pos c16] at H
            have c16b0 : (t240 == 0) = true := beq_iff_eq.mpr c16
            have c16b1 : (t240 != 0) = false := bne_eq_false_iff_eq.mpr c16
            clear c16
            replace H := Option.bind_eq_some_iff.mp H
            obtain ⟨t241, A170, H⟩ := H
            replace H : ((cost_Nest.f a1 a0).bind fun t242 => (if t241 = t242 then ((cost_Merge.f k a0 a1).bind fun t236 => ((cost_Merge.f k a1 a0).bind fun t243 => (roadbooklaw10_CostWays.j0 k a0 (t236 != t243)))) else (roadbooklaw10_CostWays.j0 k a0 true))) = some r := H
            have A17 := Aside0.mk A170
            clear A170
            replace H := Option.bind_eq_some_iff.mp H
            obtain ⟨t242, A180, H⟩ := H
            replace H : (if t241 = t242 then ((cost_Merge.f k a0 a1).bind fun t236 => ((cost_Merge.f k a1 a0).bind fun t243 => (roadbooklaw10_CostWays.j0 k a0 (t236 != t243)))) else (roadbooklaw10_CostWays.j0 k a0 true)) = some r := H
            have A18 := Aside0.mk A180
            clear A180
            by_cases c19 : t241 = t242
            · rw [if_pos c19] at H
              have c19b0 : (t241 == t242) = true := beq_iff_eq.mpr c19
              have c19b1 : (t241 != t242) = false := bne_eq_false_iff_eq.mpr c19
              clear c19
              replace H := Option.bind_eq_some_iff.mp H
              obtain ⟨t236q_, A200, H⟩ := H
              have e_ := Option.some.inj (A7.out.symm.trans A200)
              obtain rfl := e_
              skip
              replace H : ((cost_Merge.f k a1 a0).bind fun t243 => (roadbooklaw10_CostWays.j0 k a0 (t236 != t243))) = some r := H
              have A20 := Aside0.mk A200
              clear A200
              replace H := Option.bind_eq_some_iff.mp H
              obtain ⟨t243, A210, H⟩ := H
              replace H : (roadbooklaw10_CostWays.j0 k a0 (t236 != t243)) = some r := H
              have A21 := Aside0.mk A210
              clear A210
              have H' := Aside0.mk H
              clear H
              go_wp2_with (first | (go_at_call 18; (with_reducible refine (cost_Merge.calls k a0 a1 t236 _ A7.out).mono ?_); rintro e w22 ⟨rfl, hb⟩; have n0_ := Aside0.mk (below_step (by repeat (first | (with_reducible first | exact HB.out | apply below_alloc | apply pw_below_drewN | apply below_drew1) | exact HB.out)) hb); clear HB; have HB := n0_; clear n0_; (try clear hb); (try clear hb2); (try clear hk); (try clear hi)) | (go_at_call 16; (with_reducible refine (cost_Hash.calls k a0 a1 t237 _ A8.out).mono ?_); rintro e w23 ⟨rfl, hb⟩; have n0_ := Aside0.mk (below_step (by repeat (first | (with_reducible first | exact HB.out | apply below_alloc | apply pw_below_drewN | apply below_drew1) | exact HB.out)) hb); clear HB; have HB := n0_; clear n0_; (try clear hb); (try clear hb2); (try clear hk); (try clear hi)) | (go_at_call 14; (with_reducible refine (cost_Nest.calls a0 1 t238 _ A12.out).mono ?_); rintro e w24 ⟨rfl, hb⟩; have n0_ := Aside0.mk (below_step (by repeat (first | (with_reducible first | exact HB.out | apply below_alloc | apply pw_below_drewN | apply below_drew1) | exact HB.out)) hb); clear HB; have HB := n0_; clear n0_; (try clear hb); (try clear hb2); (try clear hk); (try clear hi)) | (go_at_call 12; (with_reducible refine (cost_Scan.calls a0 t239 _ A13.out).mono ?_); rintro e w25 ⟨rfl, hb⟩; have n0_ := Aside0.mk (below_step (by repeat (first | (with_reducible first | exact HB.out | apply below_alloc | apply pw_below_drewN | apply below_drew1) | exact HB.out)) hb); clear HB; have HB := n0_; clear n0_; (try clear hb); (try clear hb2); (try clear hk); (try clear hi)) | (go_at_call 14; (with_reducible refine (cost_Nest.calls a0 0 t240 _ A15.out).mono ?_); rintro e w26 ⟨rfl, hb⟩; have n0_ := Aside0.mk (below_step (by repeat (first | (with_reducible first | exact HB.out | apply below_alloc | apply pw_below_drewN | apply below_drew1) | exact HB.out)) hb); clear HB; have HB := n0_; clear n0_; (try clear hb); (try clear hb2); (try clear hk); (try clear hi)) | (go_at_call 14; (with_reducible refine (cost_Nest.calls a0 a1 t241 _ A17.out).mono ?_); rintro e w27 ⟨rfl, hb⟩; have n0_ := Aside0.mk (below_step (by repeat (first | (with_reducible first | exact HB.out | apply below_alloc | apply pw_below_drewN | apply below_drew1) | exact HB.out)) hb); clear HB; have HB := n0_; clear n0_; (try clear hb); (try clear hb2); (try clear hk); (try clear hi)) | (go_at_call 14; (with_reducible refine (cost_Nest.calls a1 a0 t242 _ A18.out).mono ?_); rintro e w28 ⟨rfl, hb⟩; have n0_ := Aside0.mk (below_step (by repeat (first | (with_reducible first | exact HB.out | apply below_alloc | apply pw_below_drewN | apply below_drew1) | exact HB.out)) hb); clear HB; have HB := n0_; clear n0_; (try clear hb); (try clear hb2); (try clear hk); (try clear hi)) | (go_at_call 18; (with_reducible refine (cost_Merge.calls k a0 a1 t236 _ A20.out).mono ?_); rintro e w29 ⟨rfl, hb⟩; have n0_ := Aside0.mk (below_step (by repeat (first | (with_reducible first | exact HB.out | apply below_alloc | apply pw_below_drewN | apply below_drew1) | exact HB.out)) hb); clear HB; have HB := n0_; clear n0_; (try clear hb); (try clear hb2); (try clear hk); (try clear hi)) | (go_at_call 18; (with_reducible refine (cost_Merge.calls k a1 a0 t243 _ A21.out).mono ?_); rintro e w30 ⟨rfl, hb⟩; have n0_ := Aside0.mk (below_step (by repeat (first | (with_reducible first | exact HB.out | apply below_alloc | apply pw_below_drewN | apply below_drew1) | exact HB.out)) hb); clear HB; have HB := n0_; clear n0_; (try clear hb); (try clear hb2); (try clear hk); (try clear hi)))
              go_meet
              case rel => exact ⟨_, ((t236 != t243)), (by first | rfl | (simp; done) | (simp [*]; done)), H', ⟨by first | omega | exact Nat.le_refl _⟩, ⟨by repeat (first | (with_reducible first | exact HB.out | apply below_alloc | apply pw_below_drewN | apply below_drew1) | exact HB.out)⟩⟩
            · rw [if_neg c19] at H
              have c19b0 : (t241 == t242) = false := beq_eq_false_iff_ne.mpr c19
              have c19b1 : (t241 != t242) = true := bne_iff_ne.mpr c19
              have H' := Aside0.mk H
              clear H
              go_wp2_with (first | (go_at_call 18; (with_reducible refine (cost_Merge.calls k a0 a1 t236 _ A7.out).mono ?_); rintro e w31 ⟨rfl, hb⟩; have n0_ := Aside0.mk (below_step (by repeat (first | (with_reducible first | exact HB.out | apply below_alloc | apply pw_below_drewN | apply below_drew1) | exact HB.out)) hb); clear HB; have HB := n0_; clear n0_; (try clear hb); (try clear hb2); (try clear hk); (try clear hi)) | (go_at_call 16; (with_reducible refine (cost_Hash.calls k a0 a1 t237 _ A8.out).mono ?_); rintro e w32 ⟨rfl, hb⟩; have n0_ := Aside0.mk (below_step (by repeat (first | (with_reducible first | exact HB.out | apply below_alloc | apply pw_below_drewN | apply below_drew1) | exact HB.out)) hb); clear HB; have HB := n0_; clear n0_; (try clear hb); (try clear hb2); (try clear hk); (try clear hi)) | (go_at_call 14; (with_reducible refine (cost_Nest.calls a0 1 t238 _ A12.out).mono ?_); rintro e w33 ⟨rfl, hb⟩; have n0_ := Aside0.mk (below_step (by repeat (first | (with_reducible first | exact HB.out | apply below_alloc | apply pw_below_drewN | apply below_drew1) | exact HB.out)) hb); clear HB; have HB := n0_; clear n0_; (try clear hb); (try clear hb2); (try clear hk); (try clear hi)) | (go_at_call 12; (with_reducible refine (cost_Scan.calls a0 t239 _ A13.out).mono ?_); rintro e w34 ⟨rfl, hb⟩; have n0_ := Aside0.mk (below_step (by repeat (first | (with_reducible first | exact HB.out | apply below_alloc | apply pw_below_drewN | apply below_drew1) | exact HB.out)) hb); clear HB; have HB := n0_; clear n0_; (try clear hb); (try clear hb2); (try clear hk); (try clear hi)) | (go_at_call 14; (with_reducible refine (cost_Nest.calls a0 0 t240 _ A15.out).mono ?_); rintro e w35 ⟨rfl, hb⟩; have n0_ := Aside0.mk (below_step (by repeat (first | (with_reducible first | exact HB.out | apply below_alloc | apply pw_below_drewN | apply below_drew1) | exact HB.out)) hb); clear HB; have HB := n0_; clear n0_; (try clear hb); (try clear hb2); (try clear hk); (try clear hi)) | (go_at_call 14; (with_reducible refine (cost_Nest.calls a0 a1 t241 _ A17.out).mono ?_); rintro e w36 ⟨rfl, hb⟩; have n0_ := Aside0.mk (below_step (by repeat (first | (with_reducible first | exact HB.out | apply below_alloc | apply pw_below_drewN | apply below_drew1) | exact HB.out)) hb); clear HB; have HB := n0_; clear n0_; (try clear hb); (try clear hb2); (try clear hk); (try clear hi)) | (go_at_call 14; (with_reducible refine (cost_Nest.calls a1 a0 t242 _ A18.out).mono ?_); rintro e w37 ⟨rfl, hb⟩; have n0_ := Aside0.mk (below_step (by repeat (first | (with_reducible first | exact HB.out | apply below_alloc | apply pw_below_drewN | apply below_drew1) | exact HB.out)) hb); clear HB; have HB := n0_; clear n0_; (try clear hb); (try clear hb2); (try clear hk); (try clear hi)))
              go_meet
              case rel => exact ⟨_, (true), (by first | rfl | (simp; done) | (simp [*]; done)), H', ⟨by first | omega | exact Nat.le_refl _⟩, ⟨by repeat (first | (with_reducible first | exact HB.out | apply below_alloc | apply pw_below_drewN | apply below_drew1) | exact HB.out)⟩⟩
          · rw [if_neg c16] at H
            have c16b0 : (t240 == 0) = false := beq_eq_false_iff_ne.mpr c16
            have c16b1 : (t240 != 0) = true := bne_iff_ne.mpr c16
            have H' := Aside0.mk H
            clear H
            go_wp2_with (first | (go_at_call 18; (with_reducible refine (cost_Merge.calls k a0 a1 t236 _ A7.out).mono ?_); rintro e w38 ⟨rfl, hb⟩; have n0_ := Aside0.mk (below_step (by repeat (first | (with_reducible first | exact HB.out | apply below_alloc | apply pw_below_drewN | apply below_drew1) | exact HB.out)) hb); clear HB; have HB := n0_; clear n0_; (try clear hb); (try clear hb2); (try clear hk); (try clear hi)) | (go_at_call 16; (with_reducible refine (cost_Hash.calls k a0 a1 t237 _ A8.out).mono ?_); rintro e w39 ⟨rfl, hb⟩; have n0_ := Aside0.mk (below_step (by repeat (first | (with_reducible first | exact HB.out | apply below_alloc | apply pw_below_drewN | apply below_drew1) | exact HB.out)) hb); clear HB; have HB := n0_; clear n0_; (try clear hb); (try clear hb2); (try clear hk); (try clear hi)) | (go_at_call 14; (with_reducible refine (cost_Nest.calls a0 1 t238 _ A12.out).mono ?_); rintro e w40 ⟨rfl, hb⟩; have n0_ := Aside0.mk (below_step (by repeat (first | (with_reducible first | exact HB.out | apply below_alloc | apply pw_below_drewN | apply below_drew1) | exact HB.out)) hb); clear HB; have HB := n0_; clear n0_; (try clear hb); (try clear hb2); (try clear hk); (try clear hi)) | (go_at_call 12; (with_reducible refine (cost_Scan.calls a0 t239 _ A13.out).mono ?_); rintro e w41 ⟨rfl, hb⟩; have n0_ := Aside0.mk (below_step (by repeat (first | (with_reducible first | exact HB.out | apply below_alloc | apply pw_below_drewN | apply below_drew1) | exact HB.out)) hb); clear HB; have HB := n0_; clear n0_; (try clear hb); (try clear hb2); (try clear hk); (try clear hi)) | (go_at_call 14; (with_reducible refine (cost_Nest.calls a0 0 t240 _ A15.out).mono ?_); rintro e w42 ⟨rfl, hb⟩; have n0_ := Aside0.mk (below_step (by repeat (first | (with_reducible first | exact HB.out | apply below_alloc | apply pw_below_drewN | apply below_drew1) | exact HB.out)) hb); clear HB; have HB := n0_; clear n0_; (try clear hb); (try clear hb2); (try clear hk); (try clear hi)))
            go_meet
            case rel => exact ⟨_, (true), (by first | rfl | (simp; done) | (simp [*]; done)), H', ⟨by first | omega | exact Nat.le_refl _⟩, ⟨by repeat (first | (with_reducible first | exact HB.out | apply below_alloc | apply pw_below_drewN | apply below_drew1) | exact HB.out)⟩⟩
        · rw [if_neg c14] at H
          have c14b0 : (t238 == t239) = false := beq_eq_false_iff_ne.mpr c14
          have c14b1 : (t238 != t239) = true := bne_iff_ne.mpr c14
          have H' := Aside0.mk H
          clear H
          go_wp2_with (first | (go_at_call 18; (with_reducible refine (cost_Merge.calls k a0 a1 t236 _ A7.out).mono ?_); rintro e w43 ⟨rfl, hb⟩; have n0_ := Aside0.mk (below_step (by repeat (first | (with_reducible first | exact HB.out | apply below_alloc | apply pw_below_drewN | apply below_drew1) | exact HB.out)) hb); clear HB; have HB := n0_; clear n0_; (try clear hb); (try clear hb2); (try clear hk); (try clear hi)) | (go_at_call 16; (with_reducible refine (cost_Hash.calls k a0 a1 t237 _ A8.out).mono ?_); rintro e w44 ⟨rfl, hb⟩; have n0_ := Aside0.mk (below_step (by repeat (first | (with_reducible first | exact HB.out | apply below_alloc | apply pw_below_drewN | apply below_drew1) | exact HB.out)) hb); clear HB; have HB := n0_; clear n0_; (try clear hb); (try clear hb2); (try clear hk); (try clear hi)) | (go_at_call 14; (with_reducible refine (cost_Nest.calls a0 1 t238 _ A12.out).mono ?_); rintro e w45 ⟨rfl, hb⟩; have n0_ := Aside0.mk (below_step (by repeat (first | (with_reducible first | exact HB.out | apply below_alloc | apply pw_below_drewN | apply below_drew1) | exact HB.out)) hb); clear HB; have HB := n0_; clear n0_; (try clear hb); (try clear hb2); (try clear hk); (try clear hi)) | (go_at_call 12; (with_reducible refine (cost_Scan.calls a0 t239 _ A13.out).mono ?_); rintro e w46 ⟨rfl, hb⟩; have n0_ := Aside0.mk (below_step (by repeat (first | (with_reducible first | exact HB.out | apply below_alloc | apply pw_below_drewN | apply below_drew1) | exact HB.out)) hb); clear HB; have HB := n0_; clear n0_; (try clear hb); (try clear hb2); (try clear hk); (try clear hi)))
          go_meet
          case rel => exact ⟨_, (true), (by first | rfl | (simp; done) | (simp [*]; done)), H', ⟨by first | omega | exact Nat.le_refl _⟩, ⟨by repeat (first | (with_reducible first | exact HB.out | apply below_alloc | apply pw_below_drewN | apply below_drew1) | exact HB.out)⟩⟩
    · replace c6 := Bool.eq_false_iff.mpr c6
      subst c6
      have H1 : (roadbooklaw10_CostWays.j0 k a0 true) = some r := by rw [if_neg (show ¬ (false = true) by decide)] at H; exact H
      clear H
      have H := H1
      clear H1
      have H' := Aside0.mk H
      clear H
      go_wp2
      go_meet
      case rel => exact ⟨_, (true), (by first | rfl | (simp; done) | (simp [*]; done)), H', ⟨by first | omega | exact Nat.le_refl _⟩, ⟨by repeat (first | (with_reducible first | exact HB.out | apply below_alloc | apply pw_below_drewN | apply below_drew1) | exact HB.out)⟩⟩
  case rest =>
    clear HC4
    try clear c1
    try clear p2
    try clear c6
    try clear c7
    try clear c8
    try clear c9
    try clear c9b0
    try clear c14
    try clear c14b0
    try clear c14b1
    try clear c16
    try clear c16b0
    try clear c16b1
    try clear c19
    try clear c19b0
    try clear c19b1
    obtain ⟨kq, x47_3, rfl, HA, HJ3, HB⟩ := hcut
    cases kq with
    | zero => exact absurd HA.out (by simp [roadbooklaw10_CostWays.j0])
    | succ kj3 =>
      have H := HA.out
      clear HA
      simp only [roadbooklaw10_CostWays.j0] at H
      by_cases c47 : x47_3 = true
      · subst c47
        have H1 : (some false) = some r := by rw [if_pos rfl] at H; exact H
        clear H
        have H := H1
        clear H1
        obtain rfl := Option.some.inj H
        go_wp2
        go_ret
        exact ⟨by first | rfl | (simp [errW_none, errW_some] <;> rfl) | (simp [*, errW_none, errW_some] <;> rfl), by repeat (first | (with_reducible first | exact HB.out | apply below_alloc | apply pw_below_drewN | apply below_drew1) | exact HB.out)⟩
      · replace c47 := Bool.eq_false_iff.mpr c47
        subst c47
        have H1 : ((cost_Sort.f a0).bind fun t244 => ((cost_Scan.f a0).bind fun t245 => (if t244 ≥ t245 then ((cost_Group.f a0 true).bind fun t246 => ((roadbooklaw10_a1.f a0).bind fun t247 => ((roadbooklaw10_a1.f a0).bind fun t247 => ((cost_Add.f kj3 (([t247, t247] : List Int))).bind fun t251 => (if t246 = t251 then ((cost_Group.f a0 false).bind fun t252 => ((cost_Scan.f a0).bind fun t245 => (some (t252 == t245)))) else (some false)))))) else (some false)))) = some r := by rw [if_neg (show ¬ (false = true) by decide)] at H; exact H
        clear H
        have H := H1
        clear H1
        replace H := Option.bind_eq_some_iff.mp H
        obtain ⟨t244, A480, H⟩ := H
        replace H : ((cost_Scan.f a0).bind fun t245 => (if t244 ≥ t245 then ((cost_Group.f a0 true).bind fun t246 => ((roadbooklaw10_a1.f a0).bind fun t247 => ((roadbooklaw10_a1.f a0).bind fun t247 => ((cost_Add.f kj3 (([t247, t247] : List Int))).bind fun t251 => (if t246 = t251 then ((cost_Group.f a0 false).bind fun t252 => ((cost_Scan.f a0).bind fun t245 => (some (t252 == t245)))) else (some false)))))) else (some false))) = some r := H
        have A48 := Aside0.mk A480
        clear A480
        replace H := Option.bind_eq_some_iff.mp H
        obtain ⟨t245, A490, H⟩ := H
        replace H : (if t244 ≥ t245 then ((cost_Group.f a0 true).bind fun t246 => ((roadbooklaw10_a1.f a0).bind fun t247 => ((roadbooklaw10_a1.f a0).bind fun t247 => ((cost_Add.f kj3 (([t247, t247] : List Int))).bind fun t251 => (if t246 = t251 then ((cost_Group.f a0 false).bind fun t252 => ((cost_Scan.f a0).bind fun t245 => (some (t252 == t245)))) else (some false)))))) else (some false)) = some r := H
        have A49 := Aside0.mk A490
        clear A490
        by_cases c50 : t244 ≥ t245
        · rw [if_pos c50] at H
          have c50b0 : decide (t245 ≤ t244) = true := decide_eq_true c50
          clear c50
          replace H := Option.bind_eq_some_iff.mp H
          obtain ⟨t246, A510, H⟩ := H
          replace H : ((roadbooklaw10_a1.f a0).bind fun t247 => ((roadbooklaw10_a1.f a0).bind fun t247 => ((cost_Add.f kj3 (([t247, t247] : List Int))).bind fun t251 => (if t246 = t251 then ((cost_Group.f a0 false).bind fun t252 => ((cost_Scan.f a0).bind fun t245 => (some (t252 == t245)))) else (some false))))) = some r := H
          have A51 := Aside0.mk A510
          clear A510
          replace H := Option.bind_eq_some_iff.mp H
          obtain ⟨t247, A520, H⟩ := H
          replace H : ((roadbooklaw10_a1.f a0).bind fun t247 => ((cost_Add.f kj3 (([t247, t247] : List Int))).bind fun t251 => (if t246 = t251 then ((cost_Group.f a0 false).bind fun t252 => ((cost_Scan.f a0).bind fun t245 => (some (t252 == t245)))) else (some false)))) = some r := H
          have A52 := Aside0.mk A520
          clear A520
          replace H := Option.bind_eq_some_iff.mp H
          obtain ⟨t247q_, A530, H⟩ := H
          have e_ := Option.some.inj (A52.out.symm.trans A530)
          obtain rfl := e_
          skip
          replace H : ((cost_Add.f kj3 (([t247, t247] : List Int))).bind fun t251 => (if t246 = t251 then ((cost_Group.f a0 false).bind fun t252 => ((cost_Scan.f a0).bind fun t245 => (some (t252 == t245)))) else (some false))) = some r := H
          have A53 := Aside0.mk A530
          clear A530
          obtain ⟨y248, hy248⟩ : ∃ y_ : List Int, y_ = (([t247, t247] : List Int)) := ⟨_, rfl⟩
          replace H : ((cost_Add.f kj3 y248).bind fun t251 => (if t246 = t251 then ((cost_Group.f a0 false).bind fun t252 => ((cost_Scan.f a0).bind fun t245 => (some (t252 == t245)))) else (some false))) = some r := by first | (rw [hy248]; with_reducible exact H) | (have H2_ := (Option.bind_some _ _).symm.trans H; rw [hy248]; with_reducible exact H2_) | (have H2_ := (Option.bind_some _ _).symm.trans H; with_reducible exact H2_) | with_reducible exact H | (rw [hy248]; exact H) | exact H
          have Ny248 := Aside0.mk hy248
          clear hy248
          replace H := Option.bind_eq_some_iff.mp H
          obtain ⟨t251, A540, H⟩ := H
          replace H : (if t246 = t251 then ((cost_Group.f a0 false).bind fun t252 => ((cost_Scan.f a0).bind fun t245 => (some (t252 == t245)))) else (some false)) = some r := H
          have A54 := Aside0.mk A540
          clear A540
          by_cases c55 : t246 = t251
          · rw [if_pos c55] at H
            have c55b0 : (t246 == t251) = true := beq_iff_eq.mpr c55
            have c55b1 : (t246 != t251) = false := bne_eq_false_iff_eq.mpr c55
            clear c55
            replace H := Option.bind_eq_some_iff.mp H
            obtain ⟨t252, A560, H⟩ := H
            replace H : ((cost_Scan.f a0).bind fun t245 => (some (t252 == t245))) = some r := H
            have A56 := Aside0.mk A560
            clear A560
            replace H := Option.bind_eq_some_iff.mp H
            obtain ⟨t245q_, A570, H⟩ := H
            have e_ := Option.some.inj (A49.out.symm.trans A570)
            obtain rfl := e_
            skip
            replace H : (some (t252 == t245)) = some r := H
            have A57 := Aside0.mk A570
            clear A570
            obtain rfl := Option.some.inj H
            go_wp2_with (first | ((with_reducible refine gate_callee (f := 10) rfl ?_); refine goesL_ (some 49) rfl rfl Try.func10 (by kernel_rfl) rfl #[.int .i64 a0] rfl (by (try simp only [List.map_toArray, List.map_cons, List.map_nil]); first | done | rfl | (simp only [List.length_drop, List.length_take]; rfl)) ?_; (with_reducible refine (cost_Sort.calls a0 t244 _ A48.out).mono ?_); rintro e w58 ⟨rfl, hb⟩; refine ⟨_, rfl, ?_⟩; have n0_ := Aside0.mk (below_step (by repeat (first | (with_reducible first | exact HB.out | apply below_alloc | apply pw_below_drewN | apply below_drew1) | exact HB.out)) hb); clear HB; have HB := n0_; clear n0_; (try clear hb); (try clear hb2); (try clear hk); (try clear hi)) | ((with_reducible refine gate_callee (f := 12) rfl ?_); refine goesL_ (some 51) rfl rfl Try.func12 (by kernel_rfl) rfl #[.int .i64 a0] rfl (by (try simp only [List.map_toArray, List.map_cons, List.map_nil]); first | done | rfl | (simp only [List.length_drop, List.length_take]; rfl)) ?_; (with_reducible refine (cost_Scan.calls a0 t245 _ A49.out).mono ?_); rintro e w59 ⟨rfl, hb⟩; refine ⟨_, rfl, ?_⟩; have n0_ := Aside0.mk (below_step (by repeat (first | (with_reducible first | exact HB.out | apply below_alloc | apply pw_below_drewN | apply below_drew1) | exact HB.out)) hb); clear HB; have HB := n0_; clear n0_; (try clear hb); (try clear hb2); (try clear hk); (try clear hi)) | (go_at_call 21; (with_reducible refine (cost_Group.calls a0 true t246 _ A51.out).mono ?_); rintro e w60 ⟨rfl, hb⟩; have n0_ := Aside0.mk (below_step (by repeat (first | (with_reducible first | exact HB.out | apply below_alloc | apply pw_below_drewN | apply below_drew1) | exact HB.out)) hb); clear HB; have HB := n0_; clear n0_; (try clear hb); (try clear hb2); (try clear hk); (try clear hi)) | (go_at_call 23; (with_reducible refine (roadbooklaw10_a1.calls a0 t247 _ A52.out).mono ?_); rintro e w61 ⟨rfl, hb⟩; have n0_ := Aside0.mk (below_step (by repeat (first | (with_reducible first | exact HB.out | apply below_alloc | apply pw_below_drewN | apply below_drew1) | exact HB.out)) hb); clear HB; have HB := n0_; clear n0_; (try clear hb); (try clear hb2); (try clear hk); (try clear hi)) | (go_at_call 23; (with_reducible refine (roadbooklaw10_a1.calls a0 t247 _ A53.out).mono ?_); rintro e w62 ⟨rfl, hb⟩; have n0_ := Aside0.mk (below_step (by repeat (first | (with_reducible first | exact HB.out | apply below_alloc | apply pw_below_drewN | apply below_drew1) | exact HB.out)) hb); clear HB; have HB := n0_; clear n0_; (try clear hb); (try clear hb2); (try clear hk); (try clear hi)) | ((with_reducible refine gate_dst (N := 60) rfl ?_); (try (refine gate_guard (by rfl) ?_; dsimp only)); refine Kd.R_lit (Kd.int .i64) _ 3 ?hg (N := 60) ?hd (xs := ([t247, t247] : List Int)) (inner := [.int .i64 t247, .int .i64 t247]) (ok := fun _ => True) (okp := fun _ => True) ?hr ?hp (fun _ hk => hk) trivial (Below.refl _ _) (Nat.le_refl _) (by simp) ?_; (case hd => rfl); (case hg => rfl); (case hr => first | (go_simp; done) | (go_simp; rfl)); (case hp => exact (Reps.one (show Kd.M (Kd.int .i64) _ _ _ t247 [.int .i64 t247] from rfl) (Reps.one (show Kd.M (Kd.int .i64) _ _ _ t247 [.int .i64 t247] from rfl) (Reps.none _ _)))); intro v249 w63 ho64 hb hg_ hnew_; clear hg_ hnew_; (first | rw [← Ny248.out] at ho64 | (simp only [Int.reduceToNat] at ho64; rw [← Ny248.out] at ho64)); have n0_ := Aside0.mk (Kd.R_lower ho64 (below_size (by repeat (first | (with_reducible first | exact HB.out | apply below_alloc | apply pw_below_drewN | apply below_drew1) | exact HB.out)))); have n1_ := Aside0.mk (below_step (by repeat (first | (with_reducible first | exact HB.out | apply below_alloc | apply pw_below_drewN | apply below_drew1) | exact HB.out)) hb); clear HB; have HO250 := n0_; have HB := n1_; clear n0_ n1_; clear hb ho64; obtain ⟨Ao65, co65, eo65⟩ := Kd.R_slice HO250.out; subst eo65) | (go_at_call 9; (with_reducible refine (cost_Add.calls kj3 _ _ y248 t251 _ ?side1 ?side2 A54.out).mono ?_); (case side1 => repeat (first | exact (Kd.R_reads' HO250.out).2.2 | (with_reducible refine Kd.C_alloc ?_ _) | (with_reducible refine Kd.C_drewN ?_ _) | (with_reducible refine Kd.C_drew ?_))); (case side2 => exact (Kd.R_reads' HO250.out).2.1); rintro e w66 ⟨rfl, hb⟩; have n0_ := Aside0.mk (Kd.R_below (by (with_reducible repeat (first | apply Kd.R_alloc | apply Kd.R_drewN | apply Kd.R_drew)); exact HO250.out) hb); have n1_ := Aside0.mk (below_step (by repeat (first | (with_reducible first | exact HB.out | apply below_alloc | apply pw_below_drewN | apply below_drew1) | exact HB.out)) hb); clear HO250; clear HB; have HO250 := n0_; have HB := n1_; clear n0_ n1_; (try clear hb); (try clear hb2); (try clear hk); (try clear hi)) | (go_at_call 21; (with_reducible refine (cost_Group.calls a0 false t252 _ A56.out).mono ?_); rintro e w67 ⟨rfl, hb⟩; have n0_ := Aside0.mk (Kd.R_below (by (with_reducible repeat (first | apply Kd.R_alloc | apply Kd.R_drewN | apply Kd.R_drew)); exact HO250.out) hb); have n1_ := Aside0.mk (below_step (by repeat (first | (with_reducible first | exact HB.out | apply below_alloc | apply pw_below_drewN | apply below_drew1) | exact HB.out)) hb); clear HO250; clear HB; have HO250 := n0_; have HB := n1_; clear n0_ n1_; (try clear hb); (try clear hb2); (try clear hk); (try clear hi)) | (go_at_call 12; (with_reducible refine (cost_Scan.calls a0 t245 _ A57.out).mono ?_); rintro e w68 ⟨rfl, hb⟩; have n0_ := Aside0.mk (Kd.R_below (by (with_reducible repeat (first | apply Kd.R_alloc | apply Kd.R_drewN | apply Kd.R_drew)); exact HO250.out) hb); have n1_ := Aside0.mk (below_step (by repeat (first | (with_reducible first | exact HB.out | apply below_alloc | apply pw_below_drewN | apply below_drew1) | exact HB.out)) hb); clear HO250; clear HB; have HO250 := n0_; have HB := n1_; clear n0_ n1_; (try clear hb); (try clear hb2); (try clear hk); (try clear hi)))
            go_ret
            exact ⟨by first | rfl | (simp [errW_none, errW_some] <;> rfl) | (simp [*, errW_none, errW_some] <;> rfl), by repeat (first | (with_reducible first | exact HB.out | apply below_alloc | apply pw_below_drewN | apply below_drew1) | exact HB.out)⟩
          · rw [if_neg c55] at H
            have c55b0 : (t246 == t251) = false := beq_eq_false_iff_ne.mpr c55
            have c55b1 : (t246 != t251) = true := bne_iff_ne.mpr c55
            obtain rfl := Option.some.inj H
            go_wp2_with (first | ((with_reducible refine gate_callee (f := 10) rfl ?_); refine goesL_ (some 49) rfl rfl Try.func10 (by kernel_rfl) rfl #[.int .i64 a0] rfl (by (try simp only [List.map_toArray, List.map_cons, List.map_nil]); first | done | rfl | (simp only [List.length_drop, List.length_take]; rfl)) ?_; (with_reducible refine (cost_Sort.calls a0 t244 _ A48.out).mono ?_); rintro e w69 ⟨rfl, hb⟩; refine ⟨_, rfl, ?_⟩; have n0_ := Aside0.mk (below_step (by repeat (first | (with_reducible first | exact HB.out | apply below_alloc | apply pw_below_drewN | apply below_drew1) | exact HB.out)) hb); clear HB; have HB := n0_; clear n0_; (try clear hb); (try clear hb2); (try clear hk); (try clear hi)) | ((with_reducible refine gate_callee (f := 12) rfl ?_); refine goesL_ (some 51) rfl rfl Try.func12 (by kernel_rfl) rfl #[.int .i64 a0] rfl (by (try simp only [List.map_toArray, List.map_cons, List.map_nil]); first | done | rfl | (simp only [List.length_drop, List.length_take]; rfl)) ?_; (with_reducible refine (cost_Scan.calls a0 t245 _ A49.out).mono ?_); rintro e w70 ⟨rfl, hb⟩; refine ⟨_, rfl, ?_⟩; have n0_ := Aside0.mk (below_step (by repeat (first | (with_reducible first | exact HB.out | apply below_alloc | apply pw_below_drewN | apply below_drew1) | exact HB.out)) hb); clear HB; have HB := n0_; clear n0_; (try clear hb); (try clear hb2); (try clear hk); (try clear hi)) | (go_at_call 21; (with_reducible refine (cost_Group.calls a0 true t246 _ A51.out).mono ?_); rintro e w71 ⟨rfl, hb⟩; have n0_ := Aside0.mk (below_step (by repeat (first | (with_reducible first | exact HB.out | apply below_alloc | apply pw_below_drewN | apply below_drew1) | exact HB.out)) hb); clear HB; have HB := n0_; clear n0_; (try clear hb); (try clear hb2); (try clear hk); (try clear hi)) | (go_at_call 23; (with_reducible refine (roadbooklaw10_a1.calls a0 t247 _ A52.out).mono ?_); rintro e w72 ⟨rfl, hb⟩; have n0_ := Aside0.mk (below_step (by repeat (first | (with_reducible first | exact HB.out | apply below_alloc | apply pw_below_drewN | apply below_drew1) | exact HB.out)) hb); clear HB; have HB := n0_; clear n0_; (try clear hb); (try clear hb2); (try clear hk); (try clear hi)) | (go_at_call 23; (with_reducible refine (roadbooklaw10_a1.calls a0 t247 _ A53.out).mono ?_); rintro e w73 ⟨rfl, hb⟩; have n0_ := Aside0.mk (below_step (by repeat (first | (with_reducible first | exact HB.out | apply below_alloc | apply pw_below_drewN | apply below_drew1) | exact HB.out)) hb); clear HB; have HB := n0_; clear n0_; (try clear hb); (try clear hb2); (try clear hk); (try clear hi)) | ((with_reducible refine gate_dst (N := 60) rfl ?_); (try (refine gate_guard (by rfl) ?_; dsimp only)); refine Kd.R_lit (Kd.int .i64) _ 3 ?hg (N := 60) ?hd (xs := ([t247, t247] : List Int)) (inner := [.int .i64 t247, .int .i64 t247]) (ok := fun _ => True) (okp := fun _ => True) ?hr ?hp (fun _ hk => hk) trivial (Below.refl _ _) (Nat.le_refl _) (by simp) ?_; (case hd => rfl); (case hg => rfl); (case hr => first | (go_simp; done) | (go_simp; rfl)); (case hp => exact (Reps.one (show Kd.M (Kd.int .i64) _ _ _ t247 [.int .i64 t247] from rfl) (Reps.one (show Kd.M (Kd.int .i64) _ _ _ t247 [.int .i64 t247] from rfl) (Reps.none _ _)))); intro v249 w74 ho75 hb hg_ hnew_; clear hg_ hnew_; (first | rw [← Ny248.out] at ho75 | (simp only [Int.reduceToNat] at ho75; rw [← Ny248.out] at ho75)); have n0_ := Aside0.mk (Kd.R_lower ho75 (below_size (by repeat (first | (with_reducible first | exact HB.out | apply below_alloc | apply pw_below_drewN | apply below_drew1) | exact HB.out)))); have n1_ := Aside0.mk (below_step (by repeat (first | (with_reducible first | exact HB.out | apply below_alloc | apply pw_below_drewN | apply below_drew1) | exact HB.out)) hb); clear HB; have HO250 := n0_; have HB := n1_; clear n0_ n1_; clear hb ho75; obtain ⟨Ao76, co76, eo76⟩ := Kd.R_slice HO250.out; subst eo76) | (go_at_call 9; (with_reducible refine (cost_Add.calls kj3 _ _ y248 t251 _ ?side1 ?side2 A54.out).mono ?_); (case side1 => repeat (first | exact (Kd.R_reads' HO250.out).2.2 | (with_reducible refine Kd.C_alloc ?_ _) | (with_reducible refine Kd.C_drewN ?_ _) | (with_reducible refine Kd.C_drew ?_))); (case side2 => exact (Kd.R_reads' HO250.out).2.1); rintro e w77 ⟨rfl, hb⟩; have n0_ := Aside0.mk (Kd.R_below (by (with_reducible repeat (first | apply Kd.R_alloc | apply Kd.R_drewN | apply Kd.R_drew)); exact HO250.out) hb); have n1_ := Aside0.mk (below_step (by repeat (first | (with_reducible first | exact HB.out | apply below_alloc | apply pw_below_drewN | apply below_drew1) | exact HB.out)) hb); clear HO250; clear HB; have HO250 := n0_; have HB := n1_; clear n0_ n1_; (try clear hb); (try clear hb2); (try clear hk); (try clear hi)))
            go_ret
            exact ⟨by first | rfl | (simp [errW_none, errW_some] <;> rfl) | (simp [*, errW_none, errW_some] <;> rfl), by repeat (first | (with_reducible first | exact HB.out | apply below_alloc | apply pw_below_drewN | apply below_drew1) | exact HB.out)⟩
        · rw [if_neg c50] at H
          have c50b0 : decide (t245 ≤ t244) = false := decide_eq_false c50
          clear c50
          obtain rfl := Option.some.inj H
          go_wp2_with (first | ((with_reducible refine gate_callee (f := 10) rfl ?_); refine goesL_ (some 49) rfl rfl Try.func10 (by kernel_rfl) rfl #[.int .i64 a0] rfl (by (try simp only [List.map_toArray, List.map_cons, List.map_nil]); first | done | rfl | (simp only [List.length_drop, List.length_take]; rfl)) ?_; (with_reducible refine (cost_Sort.calls a0 t244 _ A48.out).mono ?_); rintro e w78 ⟨rfl, hb⟩; refine ⟨_, rfl, ?_⟩; have n0_ := Aside0.mk (below_step (by repeat (first | (with_reducible first | exact HB.out | apply below_alloc | apply pw_below_drewN | apply below_drew1) | exact HB.out)) hb); clear HB; have HB := n0_; clear n0_; (try clear hb); (try clear hb2); (try clear hk); (try clear hi)) | ((with_reducible refine gate_callee (f := 12) rfl ?_); refine goesL_ (some 51) rfl rfl Try.func12 (by kernel_rfl) rfl #[.int .i64 a0] rfl (by (try simp only [List.map_toArray, List.map_cons, List.map_nil]); first | done | rfl | (simp only [List.length_drop, List.length_take]; rfl)) ?_; (with_reducible refine (cost_Scan.calls a0 t245 _ A49.out).mono ?_); rintro e w79 ⟨rfl, hb⟩; refine ⟨_, rfl, ?_⟩; have n0_ := Aside0.mk (below_step (by repeat (first | (with_reducible first | exact HB.out | apply below_alloc | apply pw_below_drewN | apply below_drew1) | exact HB.out)) hb); clear HB; have HB := n0_; clear n0_; (try clear hb); (try clear hb2); (try clear hk); (try clear hi)))
          go_ret
          exact ⟨by first | rfl | (simp [errW_none, errW_some] <;> rfl) | (simp [*, errW_none, errW_some] <;> rfl), by repeat (first | (with_reducible first | exact HB.out | apply below_alloc | apply pw_below_drewN | apply below_drew1) | exact HB.out)⟩

/-- THE ONE PURE STATEMENT of roadbooklaw10_CostWays: yours. -/
def roadbooklaw10_CostWays.Pure : Prop := ∀ (a0 : Int) (a1 : Int), (Lit.int .i64 a0).wf = true → (Lit.int .i64 a1).wf = true → ∃ k, roadbooklaw10_CostWays.f k a0 a1 = some true
theorem roadbooklaw10_CostWays.walk (P : roadbooklaw10_CostWays.Pure) (a0 : Int) (a1 : Int) (w : World) (w0 : (Lit.int .i64 a0).wf = true) (w1 : (Lit.int .i64 a1).wf = true) :
    Calls Try.prog 7 #[.int .i64 a0, .int .i64 a1] w fun e w' => e = .returned (.bool true) ∧ Below w.heap.size w w' := by
  obtain ⟨k, h⟩ := P a0 a1 w0 w1
  refine (roadbooklaw10_CostWays.calls k a0 a1 true w h).mono ?_
  rintro e w' ⟨rfl, hd⟩
  exact ⟨rfl, hd⟩

end Go.Proofs.Ytogancfhameniaa.Cost
