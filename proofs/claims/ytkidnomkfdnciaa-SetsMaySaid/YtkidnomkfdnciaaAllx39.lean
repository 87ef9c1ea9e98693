/- Functions of the program as plain Lean functions, and proofs that the calls do what these say; written for this claim by a program of the session (wip/tools/mkprint.py), checked by Lean. -/
import Derived.Test.YtkidnomkfdnciaaAllx0
import Derived.Test.YtkidnomkfdnciaaAllx4
import Derived.Test.YtkidnomkfdnciaaAllx31
import Derived.Test.YtkidnomkfdnciaaAllx34
namespace Go.Proofs.Ytkidnomkfdnciaa.All
open Go.RowKit Go.Proofs.YtkidnomkfdnciaaW.PrintWords Go.Proofs.YtkidnomkfdnciaaW.PrintLast Go.Proofs.YtkidnomkfdnciaaW.PrintMore
attribute [local go_sem] max2_int min2_int max_two min_two max_three min_three max_four min_four   -- for this text's walks alone
set_option linter.unusedVariables false
set_option linter.unusedSimpArgs false

/-! ### roadbooklaw15_SetsMay: function 5 -/
mutual
def roadbooklaw15_SetsMay.j0 : Nat → List Int → Int → Int → Int → Bool → Bool → Option (Bool)
  | 0, _, _, _, _, _, _ => none
  | k + 1, x0, x1, x2, x3, x9, x20 => if x20 = true then (some x9) else (if x3 ≥ 0 then (if x3 ≤ (x0.length : Int) then (if 0 ≤ x3 then ((sets_May.f k (x0.take (x3 : Int).toNat)).bind fun t202 => (roadbooklaw15_SetsMay.j1 k x0 x1 x2 x3 (!t202))) else (none)) else (roadbooklaw15_SetsMay.j1 k x0 x1 x2 x3 false)) else (roadbooklaw15_SetsMay.j1 k x0 x1 x2 x3 false))
def roadbooklaw15_SetsMay.j1 : Nat → List Int → Int → Int → Int → Bool → Option (Bool)
  | 0, _, _, _, _, _ => none
  | k + 1, x0, x1, x2, x3, x36 => if x36 = true then (some false) else ((sets_Join.f k x0 x1 x2).bind fun bt203 => (if bt203.2 = true then ((sets_Find.f k x0 x1).bind fun t213 => ((sets_Find.f k x0 x2).bind fun t214 => (if t213 = t214 then ((roadbooklaw15_least.f k bt203.1).bind fun t215 => ((roadbooklaw15_least.f k x0).bind fun t216 => (if t215 = (wrap64 (t216)) then (some ((bt203.1.length : Int) == (x0.length : Int))) else (some false)))) else ((roadbooklaw15_least.f k bt203.1).bind fun t217 => ((roadbooklaw15_least.f k x0).bind fun t218 => (if t217 = (wrap64 (t218 - 1)) then (some ((bt203.1.length : Int) == (x0.length : Int))) else (some false))))))) else ((sets_New.f k x3).bind fun t207 => (if (t207.length : Int) = 0 then (some true) else ((sets_New.f k x3).bind fun t210 => (some ((t210.length : Int) == x3)))))))
end
def roadbooklaw15_SetsMay.f (k : Nat) (l0 : List Int) (a1 : Int) (a2 : Int) (a3 : Int) : Option (Bool) := (roadbooklaw15_awake.f k).bind fun t199 => (if t199 = true then ((sets_May.f k l0).bind fun t200 => (roadbooklaw15_SetsMay.j0 k l0 a1 a2 a3 t199 (!t200))) else (roadbooklaw15_SetsMay.j0 k l0 a1 a2 a3 t199 true))
theorem roadbooklaw15_SetsMay.mono_l : ∀ k, (∀ y0 y1 y2 y3 y4 y5, LeO (roadbooklaw15_SetsMay.j0 k y0 y1 y2 y3 y4 y5) (roadbooklaw15_SetsMay.j0 (k + 1) y0 y1 y2 y3 y4 y5)) ∧ (∀ y0 y1 y2 y3 y4, LeO (roadbooklaw15_SetsMay.j1 k y0 y1 y2 y3 y4) (roadbooklaw15_SetsMay.j1 (k + 1) y0 y1 y2 y3 y4))
  | 0 => ⟨fun _ _ _ _ _ _ r h => by simp [roadbooklaw15_SetsMay.j0] at h, fun _ _ _ _ _ r h => by simp [roadbooklaw15_SetsMay.j1] at h⟩
  | k + 1 => by
    obtain ⟨ih0, ih1⟩ := roadbooklaw15_SetsMay.mono_l k
    refine ⟨?_, ?_⟩
    · intro y0 y1 y2 y3 y4 y5
      unfold roadbooklaw15_SetsMay.j0
      repeat' first
      | (with_reducible exact ih0 _ _ _ _ _ _)
      | (with_reducible exact ih1 _ _ _ _ _)
      | (with_reducible exact roadbooklaw15_awake.mono _)
      | (with_reducible exact roadbooklaw15_least.mono _ _)
      | (with_reducible exact sets_Find.mono _ _ _)
      | (with_reducible exact sets_Join.mono _ _ _ _)
      | (with_reducible exact sets_May.mono _ _)
      | (with_reducible exact sets_New.mono _ _)
      | (with_reducible exact LeO.refl _)
      | (with_reducible exact LeO.none _)
      | (with_reducible refine LeO.ite ?_ ?_)
      | (with_reducible refine LeO.bind ?_ (fun _ => ?_))
      | exact ih0 _ _ _ _ _ _
      | exact ih1 _ _ _ _ _
      | exact roadbooklaw15_awake.mono _
      | exact roadbooklaw15_least.mono _ _
      | exact sets_Find.mono _ _ _
      | exact sets_Join.mono _ _ _ _
      | exact sets_May.mono _ _
      | exact sets_New.mono _ _
      | exact LeO.none _
      | refine LeO.ite ?_ ?_
      | refine LeO.bind ?_ (fun _ => ?_)
    · intro y0 y1 y2 y3 y4
      unfold roadbooklaw15_SetsMay.j1
      repeat' first
      | (with_reducible exact ih0 _ _ _ _ _ _)
      | (with_reducible exact ih1 _ _ _ _ _)
      | (with_reducible exact roadbooklaw15_awake.mono _)
      | (with_reducible exact roadbooklaw15_least.mono _ _)
      | (with_reducible exact sets_Find.mono _ _ _)
      | (with_reducible exact sets_Join.mono _ _ _ _)
      | (with_reducible exact sets_May.mono _ _)
      | (with_reducible exact sets_New.mono _ _)
      | (with_reducible exact LeO.refl _)
      | (with_reducible exact LeO.none _)
      | (with_reducible refine LeO.ite ?_ ?_)
      | (with_reducible refine LeO.bind ?_ (fun _ => ?_))
      | exact ih0 _ _ _ _ _ _
      | exact ih1 _ _ _ _ _
      | exact roadbooklaw15_awake.mono _
      | exact roadbooklaw15_least.mono _ _
      | exact sets_Find.mono _ _ _
      | exact sets_Join.mono _ _ _ _
      | exact sets_May.mono _ _
      | exact sets_New.mono _ _
      | exact LeO.none _
      | refine LeO.ite ?_ ?_
      | refine LeO.bind ?_ (fun _ => ?_)
theorem roadbooklaw15_SetsMay.mono : ∀ a0 a1 a2 a3 k, LeO (roadbooklaw15_SetsMay.f k a0 a1 a2 a3) (roadbooklaw15_SetsMay.f (k + 1) a0 a1 a2 a3) := by
  intro a0 a1 a2 a3 k
  obtain ⟨ih0, ih1⟩ := roadbooklaw15_SetsMay.mono_l k
  unfold roadbooklaw15_SetsMay.f
  repeat' first
      | (with_reducible exact ih0 _ _ _ _ _ _)
      | (with_reducible exact ih1 _ _ _ _ _)
      | (with_reducible exact roadbooklaw15_awake.mono _)
      | (with_reducible exact roadbooklaw15_least.mono _ _)
      | (with_reducible exact sets_Find.mono _ _ _)
      | (with_reducible exact sets_Join.mono _ _ _ _)
      | (with_reducible exact sets_May.mono _ _)
      | (with_reducible exact sets_New.mono _ _)
      | (with_reducible exact LeO.refl _)
      | (with_reducible exact LeO.none _)
      | (with_reducible refine LeO.ite ?_ ?_)
      | (with_reducible refine LeO.bind ?_ (fun _ => ?_))
      | exact ih0 _ _ _ _ _ _
      | exact ih1 _ _ _ _ _
      | exact roadbooklaw15_awake.mono _
      | exact roadbooklaw15_least.mono _ _
      | exact sets_Find.mono _ _ _
      | exact sets_Join.mono _ _ _ _
      | exact sets_May.mono _ _
      | exact sets_New.mono _ _
      | exact LeO.none _
      | refine LeO.ite ?_ ?_
      | refine LeO.bind ?_ (fun _ => ?_)
set_option maxHeartbeats 8000000 in
set_option maxRecDepth 100000 in
theorem roadbooklaw15_SetsMay.calls (k : Nat) (A0 : Option Addr) (c0 : Nat) (l0 : List Int) (a1 : Int) (a2 : Int) (a3 : Int) (r : Bool) (w : World) (hr0 : Kd.C (Kd.int .i64) w A0 l0.length l0) (hc0 : l0.length ≤ c0) (hrt : r = true) (h : roadbooklaw15_SetsMay.f k l0 a1 a2 a3 = some r) :
    Calls Try.prog 5 #[.slice A0 l0.length c0, .int .i64 a1, .int .i64 a2, .int .i64 a3] w fun e w' => e = .returned (.bool r) ∧ Below w.heap.size w w' := by
  have HRT := Aside0.mk hrt
  clear hrt
  have HR0 := Aside0.mk hr0
  have HC0 := Aside0.mk hc0
  clear hr0 hc0
  have HB := Aside0.mk (Below.refl w.heap.size w)
  have H : ((roadbooklaw15_awake.f k).bind fun t199 => (if t199 = true then ((sets_May.f k l0).bind fun t200 => (roadbooklaw15_SetsMay.j0 k l0 a1 a2 a3 t199 (!t200))) else (roadbooklaw15_SetsMay.j0 k l0 a1 a2 a3 t199 true))) = some r := h
  clear h
  replace H := Option.bind_eq_some_iff.mp H
  obtain ⟨t199, A50, H⟩ := H
  replace H : (if t199 = true then ((sets_May.f k l0).bind fun t200 => (roadbooklaw15_SetsMay.j0 k l0 a1 a2 a3 t199 (!t200))) else (roadbooklaw15_SetsMay.j0 k l0 a1 a2 a3 t199 true)) = some r := H
  have A5 := Aside0.mk A50
  clear A50
  have HC6 := Aside0.mk H
  clear H
  go_enter Try.func5, Try.ntmps5
  go_upto_region 2 with (first | ((with_reducible refine gate_callee (f := 23) rfl ?_); refine goesL_ (some 13) rfl rfl Try.func23 (by kernel_rfl) rfl #[] rfl (by (try simp only [List.map_toArray, List.map_cons, List.map_nil]); first | done | rfl | (simp only [List.length_drop, List.length_take]; rfl)) ?_; (with_reducible refine (roadbooklaw15_awake.calls k  t199 _ A5.out).mono ?_); rintro e w7 ⟨rfl, hb⟩; refine ⟨_, rfl, ?_⟩; have n0_ := Aside0.mk (below_step (by repeat (first | (with_reducible first | exact HB.out | apply below_alloc | apply pw_below_drewN | apply below_drew1) | exact HB.out)) hb); clear HB; have HB := n0_; clear n0_; (try clear hb); (try clear hb2); (try clear hk); (try clear hi)))
  (try simp only [Act.put, List.setIfInBounds_toArray, List.set_cons_zero, List.set_cons_succ])
  go_cut [20] (fun v20 wc => ∃ (kq : Nat) (x20_5 : Bool), v20 = .bool x20_5 ∧ Aside0 (roadbooklaw15_SetsMay.j0 kq l0 a1 a2 a3 t199 x20_5 = some r) ∧ Aside0 (kq ≤ k) ∧ Aside0 (Below w.heap.size w wc))
  case first =>
    have H := HC6.out
    clear HC6
    by_cases c8 : t199 = true
    · subst c8
      have H1 : ((sets_May.f k l0).bind fun t200 => (roadbooklaw15_SetsMay.j0 k l0 a1 a2 a3 true (!t200))) = some r := by rw [if_pos rfl] at H; exact H
      clear H
      have H := H1
      clear H1
      replace H := Option.bind_eq_some_iff.mp H
      obtain ⟨t200, A90, H⟩ := H
      replace H : (roadbooklaw15_SetsMay.j0 k l0 a1 a2 a3 true (!t200)) = some r := H
      have A9 := Aside0.mk A90
      clear A90
      have H' := Aside0.mk H
      clear H
      go_wp2_with (first | (go_at_call 25; (with_reducible refine (sets_May.calls k _ _ l0 t200 _ ?side1 ?side2 A9.out).mono ?_); (case side1 => repeat (first | exact (Kd.C_below HR0.out HB.out) | (with_reducible refine Kd.C_alloc ?_ _) | (with_reducible refine Kd.C_drewN ?_ _) | (with_reducible refine Kd.C_drew ?_))); (case side2 => exact HC0.out); rintro e w' ⟨rfl, ⟨nd, rfl⟩⟩))
      go_meet
      case rel => exact ⟨_, (!t200), (by first | rfl | (simp; done) | (simp [*]; done)), H', ⟨by first | omega | exact Nat.le_refl _⟩, ⟨by repeat (first | (with_reducible first | exact HB.out | apply below_alloc | apply pw_below_drewN | apply below_drew1) | exact HB.out)⟩⟩
    · replace c8 := Bool.eq_false_iff.mpr c8
      subst c8
      have H1 : (roadbooklaw15_SetsMay.j0 k l0 a1 a2 a3 false true) = some r := by rw [if_neg (show ¬ (false = true) by decide)] at H; exact H
      clear H
      have H := H1
      clear H1
      have H' := Aside0.mk H
      clear H
      go_wp2
      go_meet
      case rel => exact ⟨_, (true), (by first | rfl | (simp; done) | (simp [*]; done)), H', ⟨by first | omega | exact Nat.le_refl _⟩, ⟨by repeat (first | (with_reducible first | exact HB.out | apply below_alloc | apply pw_below_drewN | apply below_drew1) | exact HB.out)⟩⟩
  case rest =>
    clear HC6
    try clear c2
    try clear p2
    try clear c5
    try clear c8
    obtain ⟨kq, x20_5, rfl, HA, HJ5, HB⟩ := hcut
    cases kq with
    | zero => exact absurd HA.out (by simp [roadbooklaw15_SetsMay.j0])
    | succ kj5 =>
      have H := HA.out
      clear HA
      simp only [roadbooklaw15_SetsMay.j0] at H
      by_cases c10 : x20_5 = true
      · subst c10
        have H1 : (some t199) = some r := by rw [if_pos rfl] at H; exact H
        clear H
        have H := H1
        clear H1
        obtain rfl := Option.some.inj H
        go_wp2
        go_ret
        exact ⟨by first | rfl | (simp [errW_none, errW_some] <;> rfl) | (simp [*, errW_none, errW_some] <;> rfl), by repeat (first | (with_reducible first | exact HB.out | apply below_alloc | apply pw_below_drewN | apply below_drew1) | exact HB.out)⟩
      · replace c10 := Bool.eq_false_iff.mpr c10
        subst c10
        have H1 : (if a3 ≥ 0 then (if a3 ≤ (l0.length : Int) then (if 0 ≤ a3 then ((sets_May.f kj5 (l0.take (a3 : Int).toNat)).bind fun t202 => (roadbooklaw15_SetsMay.j1 kj5 l0 a1 a2 a3 (!t202))) else (none)) else (roadbooklaw15_SetsMay.j1 kj5 l0 a1 a2 a3 false)) else (roadbooklaw15_SetsMay.j1 kj5 l0 a1 a2 a3 false)) = some r := by rw [if_neg (show ¬ (false = true) by decide)] at H; exact H
        clear H
        have H := H1
        clear H1
        have HC11 := Aside0.mk H
        clear H
        go_upto_region 4 with (fail)
        go_cut [36] (fun v36 wc => ∃ (kq : Nat) (x36_10 : Bool), v36 = .bool x36_10 ∧ Aside0 (roadbooklaw15_SetsMay.j1 kq l0 a1 a2 a3 x36_10 = some r) ∧ Aside0 (kq ≤ kj5) ∧ Aside0 (Below w.heap.size w wc))
        case first =>
          have H := HC11.out
          clear HC11
          by_cases c12 : a3 ≥ 0
          · rw [if_pos c12] at H
            have c12b0 : decide (0 ≤ a3) = true := decide_eq_true c12
            clear c12
            (first | rw [c12b0] | (simp only [i64_w, i32_w]; rw [c12b0]) | skip)
            by_cases c13 : a3 ≤ (l0.length : Int)
            · rw [if_pos c13] at H
              have c13b0 : decide (a3 ≤ (l0.length : Int)) = true := decide_eq_true c13
              clear c13
              by_cases c14 : 0 ≤ a3
              · rw [if_pos c14] at H
                have c14b0 := eq_true c14
                have c14b1 : decide (0 ≤ a3) = true := decide_eq_true c14
                clear c14
                have c15b0 := eq_true (of_decide_eq_true (by first | (with_reducible assumption) | assumption) : a3 ≤ (l0.length : Int))
                replace H := Option.bind_eq_some_iff.mp H
                obtain ⟨t202, A160, H⟩ := H
                replace H : (roadbooklaw15_SetsMay.j1 kj5 l0 a1 a2 a3 (!t202)) = some r := H
                have A16 := Aside0.mk A160
                clear A160
                have H' := Aside0.mk H
                clear H
                obtain ⟨i017, hi017, _, hsz17, _⟩ := info_parts info3
                obtain ⟨hcut17, hA17, hC17⟩ := print_take_of (P := Try.prog) (Value.int .i64) 0 22 3 .i64 Try.underlying22 hi017 hsz17 A0 c0 l0 a3 (of_decide_eq_true (by first | (with_reducible assumption) | assumption)) (of_decide_eq_true (by first | (with_reducible assumption) | assumption)) HC0.out
                have HR201 := Aside0.mk (Kd.C_of_reads (h1 := fun _ => rfl) (hA17 _ (Kd.reads_of_C HR0.out)))
                have HC201 := Aside0.mk hC17
                clear hA17 hC17 hi017 hsz17
                have HLE_ : Aside0 (a3.toNat ≤ l0.length) := ⟨by have h_ : a3 ≤ (l0.length : Int) := of_decide_eq_true (by first | (with_reducible assumption) | assumption); omega⟩
                go_wp2_with (first | (go_at_call 25; refine calls_of_args (show (#[.slice A0 a3.toNat c0] : Array Value) = #[.slice A0 (l0.take a3.toNat).length c0] from by rw [List.length_take, Nat.min_eq_left HLE_.out]) ?_; (with_reducible refine (sets_May.calls kj5 _ _ (l0.take (a3 : Int).toNat) t202 _ ?side1 ?side2 A16.out).mono ?_); (case side1 => repeat (first | exact (Kd.C_below HR201.out HB.out) | (with_reducible refine Kd.C_alloc ?_ _) | (with_reducible refine Kd.C_drewN ?_ _) | (with_reducible refine Kd.C_drew ?_))); (case side2 => exact HC201.out); rintro e w' ⟨rfl, ⟨nd, rfl⟩⟩))
                go_meet
                case rel => exact ⟨_, (!t202), (by first | rfl | (simp; done) | (simp [*]; done)), H', ⟨by have := HJ5.out; first | omega | exact Nat.le_refl _⟩, ⟨by repeat (first | (with_reducible first | exact HB.out | apply below_alloc | apply pw_below_drewN | apply below_drew1) | exact HB.out)⟩⟩
              · rw [if_neg c14] at H
                exact absurd H (by simp)
            · rw [if_neg c13] at H
              have c13b0 : decide (a3 ≤ (l0.length : Int)) = false := decide_eq_false c13
              clear c13
              have H' := Aside0.mk H
              clear H
              go_wp2
              go_meet
              case rel => exact ⟨_, (false), (by first | rfl | (simp; done) | (simp [*]; done)), H', ⟨by have := HJ5.out; first | omega | exact Nat.le_refl _⟩, ⟨by repeat (first | (with_reducible first | exact HB.out | apply below_alloc | apply pw_below_drewN | apply below_drew1) | exact HB.out)⟩⟩
          · rw [if_neg c12] at H
            have c12b0 : decide (0 ≤ a3) = false := decide_eq_false c12
            clear c12
            (first | rw [c12b0] | (simp only [i64_w, i32_w]; rw [c12b0]) | skip)
            have H' := Aside0.mk H
            clear H
            go_wp2
            go_meet
            case rel => exact ⟨_, (false), (by first | rfl | (simp; done) | (simp [*]; done)), H', ⟨by have := HJ5.out; first | omega | exact Nat.le_refl _⟩, ⟨by repeat (first | (with_reducible first | exact HB.out | apply below_alloc | apply pw_below_drewN | apply below_drew1) | exact HB.out)⟩⟩
        case rest =>
          clear HC11
          try clear c1
          try clear c2
          try clear p2
          try clear c5
          try clear c8
          try clear c10
          try clear c12
          try clear c12b0
          try clear c13
          try clear c13b0
          try clear c14
          try clear c14b0
          try clear c14b1
          try clear c15
          try clear c15b0
          try clear p2
          obtain ⟨kq, x36_10, rfl, HA, HJ10, HB⟩ := hcut
          cases kq with
          | zero => exact absurd HA.out (by simp [roadbooklaw15_SetsMay.j1])
          | succ kj10 =>
            have H := HA.out
            clear HA
            simp only [roadbooklaw15_SetsMay.j1] at H
            by_cases c18 : x36_10 = true
            · subst c18
              have H1 : (some false) = some r := by rw [if_pos rfl] at H; exact H
              clear H
              have H := H1
              clear H1
              exact absurd (HRT.out.symm.trans (Option.some.inj H).symm) (by decide)
            · replace c18 := Bool.eq_false_iff.mpr c18
              subst c18
              have H1 : ((sets_Join.f kj10 l0 a1 a2).bind fun bt203 => (if bt203.2 = true then ((sets_Find.f kj10 l0 a1).bind fun t213 => ((sets_Find.f kj10 l0 a2).bind fun t214 => (if t213 = t214 then ((roadbooklaw15_least.f kj10 bt203.1).bind fun t215 => ((roadbooklaw15_least.f kj10 l0).bind fun t216 => (if t215 = (wrap64 (t216)) then (some ((bt203.1.length : Int) == (l0.length : Int))) else (some false)))) else ((roadbooklaw15_least.f kj10 bt203.1).bind fun t217 => ((roadbooklaw15_least.f kj10 l0).bind fun t218 => (if t217 = (wrap64 (t218 - 1)) then (some ((bt203.1.length : Int) == (l0.length : Int))) else (some false))))))) else ((sets_New.f kj10 a3).bind fun t207 => (if (t207.length : Int) = 0 then (some true) else ((sets_New.f kj10 a3).bind fun t210 => (some ((t210.length : Int) == a3))))))) = some r := by rw [if_neg (show ¬ (false = true) by decide)] at H; exact H
              clear H
              have H := H1
              clear H1
              replace H := Option.bind_eq_some_iff.mp H
              obtain ⟨⟨t203, t204⟩, A190, H⟩ := H
              replace H : (if t204 = true then ((sets_Find.f kj10 l0 a1).bind fun t213 => ((sets_Find.f kj10 l0 a2).bind fun t214 => (if t213 = t214 then ((roadbooklaw15_least.f kj10 t203).bind fun t215 => ((roadbooklaw15_least.f kj10 l0).bind fun t216 => (if t215 = (wrap64 (t216)) then (some ((t203.length : Int) == (l0.length : Int))) else (some false)))) else ((roadbooklaw15_least.f kj10 t203).bind fun t217 => ((roadbooklaw15_least.f kj10 l0).bind fun t218 => (if t217 = (wrap64 (t218 - 1)) then (some ((t203.length : Int) == (l0.length : Int))) else (some false))))))) else ((sets_New.f kj10 a3).bind fun t207 => (if (t207.length : Int) = 0 then (some true) else ((sets_New.f kj10 a3).bind fun t210 => (some ((t210.length : Int) == a3)))))) = some r := H
              have A19 := Aside0.mk A190
              clear A190
              by_cases c20 : t204 = true
              · subst c20
                have H1 : ((sets_Find.f kj10 l0 a1).bind fun t213 => ((sets_Find.f kj10 l0 a2).bind fun t214 => (if t213 = t214 then ((roadbooklaw15_least.f kj10 t203).bind fun t215 => ((roadbooklaw15_least.f kj10 l0).bind fun t216 => (if t215 = (wrap64 (t216)) then (some ((t203.length : Int) == (l0.length : Int))) else (some false)))) else ((roadbooklaw15_least.f kj10 t203).bind fun t217 => ((roadbooklaw15_least.f kj10 l0).bind fun t218 => (if t217 = (wrap64 (t218 - 1)) then (some ((t203.length : Int) == (l0.length : Int))) else (some false))))))) = some r := by rw [if_pos rfl] at H; exact H
                clear H
                have H := H1
                clear H1
                replace H := Option.bind_eq_some_iff.mp H
                obtain ⟨t213, A210, H⟩ := H
                replace H : ((sets_Find.f kj10 l0 a2).bind fun t214 => (if t213 = t214 then ((roadbooklaw15_least.f kj10 t203).bind fun t215 => ((roadbooklaw15_least.f kj10 l0).bind fun t216 => (if t215 = (wrap64 (t216)) then (some ((t203.length : Int) == (l0.length : Int))) else (some false)))) else ((roadbooklaw15_least.f kj10 t203).bind fun t217 => ((roadbooklaw15_least.f kj10 l0).bind fun t218 => (if t217 = (wrap64 (t218 - 1)) then (some ((t203.length : Int) == (l0.length : Int))) else (some false)))))) = some r := H
                have A21 := Aside0.mk A210
                clear A210
                replace H := Option.bind_eq_some_iff.mp H
                obtain ⟨t214, A220, H⟩ := H
                replace H : (if t213 = t214 then ((roadbooklaw15_least.f kj10 t203).bind fun t215 => ((roadbooklaw15_least.f kj10 l0).bind fun t216 => (if t215 = (wrap64 (t216)) then (some ((t203.length : Int) == (l0.length : Int))) else (some false)))) else ((roadbooklaw15_least.f kj10 t203).bind fun t217 => ((roadbooklaw15_least.f kj10 l0).bind fun t218 => (if t217 = (wrap64 (t218 - 1)) then (some ((t203.length : Int) == (l0.length : Int))) else (some false))))) = some r := H
                have A22 := Aside0.mk A220
                clear A220
                by_cases c23 : t213 = t214
                · rw [if_pos c23] at H
                  have c23b0 : (t213 == t214) = true := beq_iff_eq.mpr c23
                  have c23b1 : (t213 != t214) = false := bne_eq_false_iff_eq.mpr c23
                  clear c23
                  replace H := Option.bind_eq_some_iff.mp H
                  obtain ⟨t215, A240, H⟩ := H
                  replace H : ((roadbooklaw15_least.f kj10 l0).bind fun t216 => (if t215 = (wrap64 (t216)) then (some ((t203.length : Int) == (l0.length : Int))) else (some false))) = some r := H
                  have A24 := Aside0.mk A240
                  clear A240
                  replace H := Option.bind_eq_some_iff.mp H
                  obtain ⟨t216, A250, H⟩ := H
                  replace H : (if t215 = (wrap64 (t216)) then (some ((t203.length : Int) == (l0.length : Int))) else (some false)) = some r := H
                  have A25 := Aside0.mk A250
                  clear A250
                  by_cases c26 : t215 = (wrap64 (t216))
                  · rw [if_pos c26] at H
                    have c26b0 : (t215 == (wrap64 (t216))) = true := beq_iff_eq.mpr c26
                    have c26b1 : (t215 != (wrap64 (t216))) = false := bne_eq_false_iff_eq.mpr c26
                    clear c26
                    obtain rfl := Option.some.inj H
                    go_wp2_with (first | ((with_reducible refine gate_callee (f := 24) rfl ?_); refine goesL_ (some 41) rfl rfl Try.func24 (by kernel_rfl) rfl #[.slice A0 l0.length c0, .int .i64 a1, .int .i64 a2] rfl (by (try simp only [List.map_toArray, List.map_cons, List.map_nil]); first | done | rfl | (simp only [List.length_drop, List.length_take]; rfl)) ?_; (with_reducible refine (sets_Join.calls kj10 _ _ l0 a1 a2 t203 true _ ?side1 ?side2 A19.out).mono ?_); (case side1 => repeat (first | exact (Kd.C_below HR0.out HB.out) | (with_reducible refine Kd.C_alloc ?_ _) | (with_reducible refine Kd.C_drewN ?_ _) | (with_reducible refine Kd.C_drew ?_))); (case side2 => exact HC0.out); rintro e w27 ⟨v205, rfl, ho0, hb⟩; refine ⟨_, rfl, ?_⟩; have n0_ := Aside0.mk (Kd.R_lower ho0 (below_size (by repeat (first | (with_reducible first | exact HB.out | apply below_alloc | apply pw_below_drewN | apply below_drew1) | exact HB.out)))); have n1_ := Aside0.mk (below_step (by repeat (first | (with_reducible first | exact HB.out | apply below_alloc | apply pw_below_drewN | apply below_drew1) | exact HB.out)) hb); clear HB; have HO206 := n0_; have HB := n1_; clear n0_ n1_; (try clear hb); (try clear hb2); (try clear hk); (try clear hi); (try clear ho0)) | ((with_reducible refine gate_callee (f := 26) rfl ?_); refine goesL_ (some 59) rfl rfl Try.func26 (by kernel_rfl) rfl #[.slice A0 l0.length c0, .int .i64 a1] rfl (by (try simp only [List.map_toArray, List.map_cons, List.map_nil]); first | done | rfl | (simp only [List.length_drop, List.length_take]; rfl)) ?_; (with_reducible refine (sets_Find.calls kj10 _ _ l0 a1 t213 _ ?side1 ?side2 A21.out).mono ?_); (case side1 => repeat (first | exact (Kd.C_below HR0.out HB.out) | (with_reducible refine Kd.C_alloc ?_ _) | (with_reducible refine Kd.C_drewN ?_ _) | (with_reducible refine Kd.C_drew ?_))); (case side2 => exact HC0.out); rintro e w' ⟨rfl, ⟨nd, rfl⟩⟩; refine ⟨_, rfl, ?_⟩) | ((with_reducible refine gate_callee (f := 26) rfl ?_); refine goesL_ (some 62) rfl rfl Try.func26 (by kernel_rfl) rfl #[.slice A0 l0.length c0, .int .i64 a2] rfl (by (try simp only [List.map_toArray, List.map_cons, List.map_nil]); first | done | rfl | (simp only [List.length_drop, List.length_take]; rfl)) ?_; (with_reducible refine (sets_Find.calls kj10 _ _ l0 a2 t214 _ ?side1 ?side2 A22.out).mono ?_); (case side1 => repeat (first | exact (Kd.C_below HR0.out (by repeat (first | (with_reducible first | exact HB.out | apply below_alloc | apply pw_below_drewN | apply below_drew1) | exact HB.out))) | (with_reducible refine Kd.C_alloc ?_ _) | (with_reducible refine Kd.C_drewN ?_ _) | (with_reducible refine Kd.C_drew ?_))); (case side2 => exact HC0.out); rintro e w' ⟨rfl, ⟨nd, rfl⟩⟩; refine ⟨_, rfl, ?_⟩; obtain ⟨Ao28, co28, eo28⟩ := Kd.R_slice HO206.out; subst eo28) | ((with_reducible refine gate_callee (f := 29) rfl ?_); refine goesL_ (some 65) rfl rfl Try.func29 (by kernel_rfl) rfl #[.slice Ao28 t203.length co28] rfl (by (try simp only [List.map_toArray, List.map_cons, List.map_nil]); first | done | rfl | (simp only [List.length_drop, List.length_take]; rfl)) ?_; (with_reducible refine (roadbooklaw15_least.calls kj10 _ _ t203 t215 _ ?side1 ?side2 A24.out).mono ?_); (case side1 => repeat (first | exact (Kd.R_reads' HO206.out).2.2 | (with_reducible refine Kd.C_alloc ?_ _) | (with_reducible refine Kd.C_drewN ?_ _) | (with_reducible refine Kd.C_drew ?_))); (case side2 => exact (Kd.R_reads' HO206.out).2.1); rintro e w29 ⟨rfl, hb⟩; refine ⟨_, rfl, ?_⟩; have n0_ := Aside0.mk (Kd.R_below (by (with_reducible repeat (first | apply Kd.R_alloc | apply Kd.R_drewN | apply Kd.R_drew)); exact HO206.out) hb); have n1_ := Aside0.mk (below_step (by repeat (first | (with_reducible first | exact HB.out | apply below_alloc | apply pw_below_drewN | apply below_drew1) | exact HB.out)) hb); clear HO206; clear HB; have HO206 := n0_; have HB := n1_; clear n0_ n1_; (try clear hb); (try clear hb2); (try clear hk); (try clear hi)) | ((with_reducible refine gate_callee (f := 29) rfl ?_); refine goesL_ (some 67) rfl rfl Try.func29 (by kernel_rfl) rfl #[.slice A0 l0.length c0] rfl (by (try simp only [List.map_toArray, List.map_cons, List.map_nil]); first | done | rfl | (simp only [List.length_drop, List.length_take]; rfl)) ?_; (with_reducible refine (roadbooklaw15_least.calls kj10 _ _ l0 t216 _ ?side1 ?side2 A25.out).mono ?_); (case side1 => repeat (first | exact (Kd.C_below HR0.out HB.out) | (with_reducible refine Kd.C_alloc ?_ _) | (with_reducible refine Kd.C_drewN ?_ _) | (with_reducible refine Kd.C_drew ?_))); (case side2 => exact HC0.out); rintro e w30 ⟨rfl, hb⟩; refine ⟨_, rfl, ?_⟩; have n0_ := Aside0.mk (Kd.R_below (by (with_reducible repeat (first | apply Kd.R_alloc | apply Kd.R_drewN | apply Kd.R_drew)); exact HO206.out) hb); have n1_ := Aside0.mk (below_step (by repeat (first | (with_reducible first | exact HB.out | apply below_alloc | apply pw_below_drewN | apply below_drew1) | exact HB.out)) hb); clear HO206; clear HB; have HO206 := n0_; have HB := n1_; clear n0_ n1_; (try clear hb); (try clear hb2); (try clear hk); (try clear hi)))
                    go_ret
                    exact ⟨by first | rfl | (simp [errW_none, errW_some] <;> rfl) | (simp [*, errW_none, errW_some] <;> rfl), by repeat (first | (with_reducible first | exact HB.out | apply below_alloc | apply pw_below_drewN | apply below_drew1) | exact HB.out)⟩
                  · rw [if_neg c26] at H
                    have c26b0 : (t215 == (wrap64 (t216))) = false := beq_eq_false_iff_ne.mpr c26
                    have c26b1 : (t215 != (wrap64 (t216))) = true := bne_iff_ne.mpr c26
                    exact absurd (HRT.out.symm.trans (Option.some.inj H).symm) (by decide)
                · rw [if_neg c23] at H
                  have c23b0 : (t213 == t214) = false := beq_eq_false_iff_ne.mpr c23
                  have c23b1 : (t213 != t214) = true := bne_iff_ne.mpr c23
                  replace H := Option.bind_eq_some_iff.mp H
                  obtain ⟨t217, A310, H⟩ := H
                  replace H : ((roadbooklaw15_least.f kj10 l0).bind fun t218 => (if t217 = (wrap64 (t218 - 1)) then (some ((t203.length : Int) == (l0.length : Int))) else (some false))) = some r := H
                  have A31 := Aside0.mk A310
                  clear A310
                  replace H := Option.bind_eq_some_iff.mp H
                  obtain ⟨t218, A320, H⟩ := H
                  replace H : (if t217 = (wrap64 (t218 - 1)) then (some ((t203.length : Int) == (l0.length : Int))) else (some false)) = some r := H
                  have A32 := Aside0.mk A320
                  clear A320
                  by_cases c33 : t217 = (wrap64 (t218 - 1))
                  · rw [if_pos c33] at H
                    have c33b0 : (t217 == (wrap64 (t218 - 1))) = true := beq_iff_eq.mpr c33
                    have c33b1 : (t217 != (wrap64 (t218 - 1))) = false := bne_eq_false_iff_eq.mpr c33
                    clear c33
                    obtain rfl := Option.some.inj H
                    go_wp2_with (first | ((with_reducible refine gate_callee (f := 24) rfl ?_); refine goesL_ (some 41) rfl rfl Try.func24 (by kernel_rfl) rfl #[.slice A0 l0.length c0, .int .i64 a1, .int .i64 a2] rfl (by (try simp only [List.map_toArray, List.map_cons, List.map_nil]); first | done | rfl | (simp only [List.length_drop, List.length_take]; rfl)) ?_; (with_reducible refine (sets_Join.calls kj10 _ _ l0 a1 a2 t203 true _ ?side1 ?side2 A19.out).mono ?_); (case side1 => repeat (first | exact (Kd.C_below HR0.out HB.out) | (with_reducible refine Kd.C_alloc ?_ _) | (with_reducible refine Kd.C_drewN ?_ _) | (with_reducible refine Kd.C_drew ?_))); (case side2 => exact HC0.out); rintro e w34 ⟨v205, rfl, ho0, hb⟩; refine ⟨_, rfl, ?_⟩; have n0_ := Aside0.mk (Kd.R_lower ho0 (below_size (by repeat (first | (with_reducible first | exact HB.out | apply below_alloc | apply pw_below_drewN | apply below_drew1) | exact HB.out)))); have n1_ := Aside0.mk (below_step (by repeat (first | (with_reducible first | exact HB.out | apply below_alloc | apply pw_below_drewN | apply below_drew1) | exact HB.out)) hb); clear HB; have HO206 := n0_; have HB := n1_; clear n0_ n1_; (try clear hb); (try clear hb2); (try clear hk); (try clear hi); (try clear ho0)) | ((with_reducible refine gate_callee (f := 26) rfl ?_); refine goesL_ (some 59) rfl rfl Try.func26 (by kernel_rfl) rfl #[.slice A0 l0.length c0, .int .i64 a1] rfl (by (try simp only [List.map_toArray, List.map_cons, List.map_nil]); first | done | rfl | (simp only [List.length_drop, List.length_take]; rfl)) ?_; (with_reducible refine (sets_Find.calls kj10 _ _ l0 a1 t213 _ ?side1 ?side2 A21.out).mono ?_); (case side1 => repeat (first | exact (Kd.C_below HR0.out HB.out) | (with_reducible refine Kd.C_alloc ?_ _) | (with_reducible refine Kd.C_drewN ?_ _) | (with_reducible refine Kd.C_drew ?_))); (case side2 => exact HC0.out); rintro e w' ⟨rfl, ⟨nd, rfl⟩⟩; refine ⟨_, rfl, ?_⟩) | ((with_reducible refine gate_callee (f := 26) rfl ?_); refine goesL_ (some 62) rfl rfl Try.func26 (by kernel_rfl) rfl #[.slice A0 l0.length c0, .int .i64 a2] rfl (by (try simp only [List.map_toArray, List.map_cons, List.map_nil]); first | done | rfl | (simp only [List.length_drop, List.length_take]; rfl)) ?_; (with_reducible refine (sets_Find.calls kj10 _ _ l0 a2 t214 _ ?side1 ?side2 A22.out).mono ?_); (case side1 => repeat (first | exact (Kd.C_below HR0.out (by repeat (first | (with_reducible first | exact HB.out | apply below_alloc | apply pw_below_drewN | apply below_drew1) | exact HB.out))) | (with_reducible refine Kd.C_alloc ?_ _) | (with_reducible refine Kd.C_drewN ?_ _) | (with_reducible refine Kd.C_drew ?_))); (case side2 => exact HC0.out); rintro e w' ⟨rfl, ⟨nd, rfl⟩⟩; refine ⟨_, rfl, ?_⟩; obtain ⟨Ao35, co35, eo35⟩ := Kd.R_slice HO206.out; subst eo35) | ((with_reducible refine gate_callee (f := 29) rfl ?_); refine goesL_ (some 65) rfl rfl Try.func29 (by kernel_rfl) rfl #[.slice Ao35 t203.length co35] rfl (by (try simp only [List.map_toArray, List.map_cons, List.map_nil]); first | done | rfl | (simp only [List.length_drop, List.length_take]; rfl)) ?_; (with_reducible refine (roadbooklaw15_least.calls kj10 _ _ t203 t217 _ ?side1 ?side2 A31.out).mono ?_); (case side1 => repeat (first | exact (Kd.R_reads' HO206.out).2.2 | (with_reducible refine Kd.C_alloc ?_ _) | (with_reducible refine Kd.C_drewN ?_ _) | (with_reducible refine Kd.C_drew ?_))); (case side2 => exact (Kd.R_reads' HO206.out).2.1); rintro e w36 ⟨rfl, hb⟩; refine ⟨_, rfl, ?_⟩; have n0_ := Aside0.mk (Kd.R_below (by (with_reducible repeat (first | apply Kd.R_alloc | apply Kd.R_drewN | apply Kd.R_drew)); exact HO206.out) hb); have n1_ := Aside0.mk (below_step (by repeat (first | (with_reducible first | exact HB.out | apply below_alloc | apply pw_below_drewN | apply below_drew1) | exact HB.out)) hb); clear HO206; clear HB; have HO206 := n0_; have HB := n1_; clear n0_ n1_; (try clear hb); (try clear hb2); (try clear hk); (try clear hi)) | ((with_reducible refine gate_callee (f := 29) rfl ?_); refine goesL_ (some 67) rfl rfl Try.func29 (by kernel_rfl) rfl #[.slice A0 l0.length c0] rfl (by (try simp only [List.map_toArray, List.map_cons, List.map_nil]); first | done | rfl | (simp only [List.length_drop, List.length_take]; rfl)) ?_; (with_reducible refine (roadbooklaw15_least.calls kj10 _ _ l0 t218 _ ?side1 ?side2 A32.out).mono ?_); (case side1 => repeat (first | exact (Kd.C_below HR0.out HB.out) | (with_reducible refine Kd.C_alloc ?_ _) | (with_reducible refine Kd.C_drewN ?_ _) | (with_reducible refine Kd.C_drew ?_))); (case side2 => exact HC0.out); rintro e w37 ⟨rfl, hb⟩; refine ⟨_, rfl, ?_⟩; have n0_ := Aside0.mk (Kd.R_below (by (with_reducible repeat (first | apply Kd.R_alloc | apply Kd.R_drewN | apply Kd.R_drew)); exact HO206.out) hb); have n1_ := Aside0.mk (below_step (by repeat (first | (with_reducible first | exact HB.out | apply below_alloc | apply pw_below_drewN | apply below_drew1) | exact HB.out)) hb); clear HO206; clear HB; have HO206 := n0_; have HB := n1_; clear n0_ n1_; (try clear hb); (try clear hb2); (try clear hk); (try clear hi)))
                    go_ret
                    exact ⟨by first | rfl | (simp [errW_none, errW_some] <;> rfl) | (simp [*, errW_none, errW_some] <;> rfl), by repeat (first | (with_reducible first | exact HB.out | apply below_alloc | apply pw_below_drewN | apply below_drew1) | exact HB.out)⟩
                  · rw [if_neg c33] at H
                    have c33b0 : (t217 == (wrap64 (t218 - 1))) = false := beq_eq_false_iff_ne.mpr c33
                    have c33b1 : (t217 != (wrap64 (t218 - 1))) = true := bne_iff_ne.mpr c33
                    exact absurd (HRT.out.symm.trans (Option.some.inj H).symm) (by decide)
              · replace c20 := Bool.eq_false_iff.mpr c20
                subst c20
                have H1 : ((sets_New.f kj10 a3).bind fun t207 => (if (t207.length : Int) = 0 then (some true) else ((sets_New.f kj10 a3).bind fun t210 => (some ((t210.length : Int) == a3))))) = some r := by rw [if_neg (show ¬ (false = true) by decide)] at H; exact H
                clear H
                have H := H1
                clear H1
                replace H := Option.bind_eq_some_iff.mp H
                obtain ⟨t207, A380, H⟩ := H
                replace H : (if (t207.length : Int) = 0 then (some true) else ((sets_New.f kj10 a3).bind fun t210 => (some ((t210.length : Int) == a3)))) = some r := H
                have A38 := Aside0.mk A380
                clear A380
                by_cases c39 : (t207.length : Int) = 0
                · rw [if_pos c39] at H
                  have c39b0 : ((t207.length : Int) == 0) = true := beq_iff_eq.mpr c39
                  have c39b1 : ((t207.length : Int) != 0) = false := bne_eq_false_iff_eq.mpr c39
                  clear c39
                  obtain rfl := Option.some.inj H
                  go_wp2_with (first | ((with_reducible refine gate_callee (f := 24) rfl ?_); refine goesL_ (some 41) rfl rfl Try.func24 (by kernel_rfl) rfl #[.slice A0 l0.length c0, .int .i64 a1, .int .i64 a2] rfl (by (try simp only [List.map_toArray, List.map_cons, List.map_nil]); first | done | rfl | (simp only [List.length_drop, List.length_take]; rfl)) ?_; (with_reducible refine (sets_Join.calls kj10 _ _ l0 a1 a2 t203 false _ ?side1 ?side2 A19.out).mono ?_); (case side1 => repeat (first | exact (Kd.C_below HR0.out HB.out) | (with_reducible refine Kd.C_alloc ?_ _) | (with_reducible refine Kd.C_drewN ?_ _) | (with_reducible refine Kd.C_drew ?_))); (case side2 => exact HC0.out); rintro e w40 ⟨v205, rfl, ho0, hb⟩; refine ⟨_, rfl, ?_⟩; have n0_ := Aside0.mk (Kd.R_lower ho0 (below_size (by repeat (first | (with_reducible first | exact HB.out | apply below_alloc | apply pw_below_drewN | apply below_drew1) | exact HB.out)))); have n1_ := Aside0.mk (below_step (by repeat (first | (with_reducible first | exact HB.out | apply below_alloc | apply pw_below_drewN | apply below_drew1) | exact HB.out)) hb); clear HB; have HO206 := n0_; have HB := n1_; clear n0_ n1_; (try clear hb); (try clear hb2); (try clear hk); (try clear hi); (try clear ho0)) | ((with_reducible refine gate_callee (f := 28) rfl ?_); refine goesL_ (some 47) rfl rfl Try.func28 (by kernel_rfl) rfl #[.int .i64 a3] rfl (by (try simp only [List.map_toArray, List.map_cons, List.map_nil]); first | done | rfl | (simp only [List.length_drop, List.length_take]; rfl)) ?_; (with_reducible refine (sets_New.calls kj10 a3 t207 _ A38.out).mono ?_); rintro e w41 ⟨v208, rfl, ho0, hb⟩; refine ⟨_, rfl, ?_⟩; have n0_ := Aside0.mk (Kd.R_elder' (by (with_reducible repeat (first | apply Kd.R_alloc | apply Kd.R_drewN | apply Kd.R_drew)); exact HO206.out) (Kd.R_base ho0) hb); have n1_ := Aside0.mk (Kd.R_lower (Kd.R_new' ho0 (Kd.R_lt (by (with_reducible repeat (first | apply Kd.R_alloc | apply Kd.R_drewN | apply Kd.R_drew)); exact HO206.out))) (below_size (by repeat (first | (with_reducible first | exact HB.out | apply below_alloc | apply pw_below_drewN | apply below_drew1) | exact HB.out)))); have n2_ := Aside0.mk (below_step (by repeat (first | (with_reducible first | exact HB.out | apply below_alloc | apply pw_below_drewN | apply below_drew1) | exact HB.out)) hb); clear HO206; clear HB; have HO206 := n0_; have HO209 := n1_; have HB := n2_; clear n0_ n1_ n2_; (try clear hb); (try clear hb2); (try clear hk); (try clear hi); (try clear ho0); obtain ⟨Ao42, co42, eo42⟩ := Kd.R_slice HO209.out; subst eo42))
                  go_ret
                  exact ⟨by first | rfl | (simp [errW_none, errW_some] <;> rfl) | (simp [*, errW_none, errW_some] <;> rfl), by repeat (first | (with_reducible first | exact HB.out | apply below_alloc | apply pw_below_drewN | apply below_drew1) | exact HB.out)⟩
                · rw [if_neg c39] at H
                  have c39b0 : ((t207.length : Int) == 0) = false := beq_eq_false_iff_ne.mpr c39
                  have c39b1 : ((t207.length : Int) != 0) = true := bne_iff_ne.mpr c39
                  have c39b2 : ¬ (t207 = []) := fun h_ => c39 (by rw [h_]; rfl)
                  replace H := Option.bind_eq_some_iff.mp H
                  obtain ⟨t210, A430, H⟩ := H
                  replace H : (some ((t210.length : Int) == a3)) = some r := H
                  have A43 := Aside0.mk A430
                  clear A430
                  obtain rfl := Option.some.inj H
                  go_wp2_with (first | ((with_reducible refine gate_callee (f := 24) rfl ?_); refine goesL_ (some 41) rfl rfl Try.func24 (by kernel_rfl) rfl #[.slice A0 l0.length c0, .int .i64 a1, .int .i64 a2] rfl (by (try simp only [List.map_toArray, List.map_cons, List.map_nil]); first | done | rfl | (simp only [List.length_drop, List.length_take]; rfl)) ?_; (with_reducible refine (sets_Join.calls kj10 _ _ l0 a1 a2 t203 false _ ?side1 ?side2 A19.out).mono ?_); (case side1 => repeat (first | exact (Kd.C_below HR0.out HB.out) | (with_reducible refine Kd.C_alloc ?_ _) | (with_reducible refine Kd.C_drewN ?_ _) | (with_reducible refine Kd.C_drew ?_))); (case side2 => exact HC0.out); rintro e w44 ⟨v205, rfl, ho0, hb⟩; refine ⟨_, rfl, ?_⟩; have n0_ := Aside0.mk (Kd.R_lower ho0 (below_size (by repeat (first | (with_reducible first | exact HB.out | apply below_alloc | apply pw_below_drewN | apply below_drew1) | exact HB.out)))); have n1_ := Aside0.mk (below_step (by repeat (first | (with_reducible first | exact HB.out | apply below_alloc | apply pw_below_drewN | apply below_drew1) | exact HB.out)) hb); clear HB; have HO206 := n0_; have HB := n1_; clear n0_ n1_; (try clear hb); (try clear hb2); (try clear hk); (try clear hi); (try clear ho0)) | ((with_reducible refine gate_callee (f := 28) rfl ?_); refine goesL_ (some 47) rfl rfl Try.func28 (by kernel_rfl) rfl #[.int .i64 a3] rfl (by (try simp only [List.map_toArray, List.map_cons, List.map_nil]); first | done | rfl | (simp only [List.length_drop, List.length_take]; rfl)) ?_; (with_reducible refine (sets_New.calls kj10 a3 t207 _ A38.out).mono ?_); rintro e w45 ⟨v208, rfl, ho0, hb⟩; refine ⟨_, rfl, ?_⟩; have n0_ := Aside0.mk (Kd.R_elder' (by (with_reducible repeat (first | apply Kd.R_alloc | apply Kd.R_drewN | apply Kd.R_drew)); exact HO206.out) (Kd.R_base ho0) hb); have n1_ := Aside0.mk (Kd.R_lower (Kd.R_new' ho0 (Kd.R_lt (by (with_reducible repeat (first | apply Kd.R_alloc | apply Kd.R_drewN | apply Kd.R_drew)); exact HO206.out))) (below_size (by repeat (first | (with_reducible first | exact HB.out | apply below_alloc | apply pw_below_drewN | apply below_drew1) | exact HB.out)))); have n2_ := Aside0.mk (below_step (by repeat (first | (with_reducible first | exact HB.out | apply below_alloc | apply pw_below_drewN | apply below_drew1) | exact HB.out)) hb); clear HO206; clear HB; have HO206 := n0_; have HO209 := n1_; have HB := n2_; clear n0_ n1_ n2_; (try clear hb); (try clear hb2); (try clear hk); (try clear hi); (try clear ho0); obtain ⟨Ao46, co46, eo46⟩ := Kd.R_slice HO209.out; subst eo46) | (go_at_call 28; (with_reducible refine (sets_New.calls kj10 a3 t210 _ A43.out).mono ?_); rintro e w47 ⟨v211, rfl, ho0, hb⟩; have n0_ := Aside0.mk (Kd.R_elder' (by (with_reducible repeat (first | apply Kd.R_alloc | apply Kd.R_drewN | apply Kd.R_drew)); exact HO206.out) (Kd.R_base ho0) hb); have n1_ := Aside0.mk (Kd.R_elder' (by (with_reducible repeat (first | apply Kd.R_alloc | apply Kd.R_drewN | apply Kd.R_drew)); exact HO209.out) (Kd.R_base ho0) hb); have n2_ := Aside0.mk (Kd.R_lower (Kd.R_new' (Kd.R_new' ho0 (Kd.R_lt (by (with_reducible repeat (first | apply Kd.R_alloc | apply Kd.R_drewN | apply Kd.R_drew)); exact HO206.out))) (Kd.R_lt (by (with_reducible repeat (first | apply Kd.R_alloc | apply Kd.R_drewN | apply Kd.R_drew)); exact HO209.out))) (below_size (by repeat (first | (with_reducible first | exact HB.out | apply below_alloc | apply pw_below_drewN | apply below_drew1) | exact HB.out)))); have n3_ := Aside0.mk (below_step (by repeat (first | (with_reducible first | exact HB.out | apply below_alloc | apply pw_below_drewN | apply below_drew1) | exact HB.out)) hb); clear HO206; clear HO209; clear HB; have HO206 := n0_; have HO209 := n1_; have HO212 := n2_; have HB := n3_; clear n0_ n1_ n2_ n3_; (try clear hb); (try clear hb2); (try clear hk); (try clear hi); (try clear ho0); obtain ⟨Ao48, co48, eo48⟩ := Kd.R_slice HO212.out; subst eo48))
                  go_ret
                  exact ⟨by first | rfl | (simp [errW_none, errW_some] <;> rfl) | (simp [*, errW_none, errW_some] <;> rfl), by repeat (first | (with_reducible first | exact HB.out | apply below_alloc | apply pw_below_drewN | apply below_drew1) | exact HB.out)⟩

/-- THE ONE PURE STATEMENT of roadbooklaw15_SetsMay: yours. -/
def roadbooklaw15_SetsMay.Pure : Prop := ∀ (l0 : List Int) (a1 : Int) (a2 : Int) (a3 : Int), l0.length ≤ maxLen → l0.length * 8 ≤ 140737488351232 → (∀ x ∈ l0, (Lit.int .i64 x).wf = true) → (Lit.int .i64 a1).wf = true → (Lit.int .i64 a2).wf = true → (Lit.int .i64 a3).wf = true → ∃ k, roadbooklaw15_SetsMay.f k l0 a1 a2 a3 = some true
theorem roadbooklaw15_SetsMay.walk (P : roadbooklaw15_SetsMay.Pure) (a0 : Option Addr) (len0 cap0 : Nat) (z0 : List Int) (a1 : Int) (a2 : Int) (a3 : Int) (w : World) (w0 : (a0 = none ∧ len0 = 0 ∧ cap0 = 0 ∧ z0 = []) ∨ ∃ x, a0 = some x ∧ len0 ≤ cap0 ∧ cap0 ≤ maxLen ∧ z0.length = cap0 ∧ (∀ i, i < z0.length → w.cell? (x.add i) = some (.int .i64 (z0.getD i 0))) ∧ ∀ n ∈ z0, (Lit.int .i64 n).wf = true) (y0 : len0 * 8 ≤ 140737488351232) (w1 : (Lit.int .i64 a1).wf = true) (w2 : (Lit.int .i64 a2).wf = true) (w3 : (Lit.int .i64 a3).wf = true) :
    Calls Try.prog 5 #[.slice a0 len0 cap0, .int .i64 a1, .int .i64 a2, .int .i64 a3] w fun e w' => e = .returned (.bool true) ∧ Below w.heap.size w w' := by
  obtain ⟨l0, rfl, hr0, hm0, hw0, hc0⟩ := ReadsInt.ofRowC w0
  obtain ⟨k, h⟩ := P l0 a1 a2 a3 hm0 y0 hw0 w1 w2 w3
  refine (roadbooklaw15_SetsMay.calls k _ _ l0 a1 a2 a3 true w (Kd.C_of_reads (d := (0 : Int)) (h1 := fun _ => rfl) hr0) hc0 rfl h).mono ?_
  rintro e w' ⟨rfl, hd⟩
  exact ⟨rfl, hd⟩

end Go.Proofs.Ytkidnomkfdnciaa.All
