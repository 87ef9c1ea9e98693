/- Functions of the program as plain Lean functions, and proofs that the calls do what these say; written for this claim by a program of the session (wip/tools/mkprint.py), checked by Lean. -/
import Derived.Test.YtkidnomkfdnciaaAllx0
namespace Go.Proofs.Ytkidnomkfdnciaa.All
open Go.RowKit Go.Proofs.YtkidnomkfdnciaaW.PrintWords Go.Proofs.YtkidnomkfdnciaaW.PrintLast Go.Proofs.YtkidnomkfdnciaaW.PrintMore
attribute [local go_sem] max2_int min2_int max_two min_two max_three min_three max_four min_four   -- for this text's walks alone
set_option linter.unusedVariables false
set_option linter.unusedSimpArgs false

/-! ### roadbooklaw20_few: function 57 -/
mutual
def roadbooklaw20_few.j0 : Nat → List (List (S76)) → Bool → Option (Bool)
  | 0, _, _ => none
  | k + 1, x0, x5 => roadbooklaw20_few.l0 k x0 x5 0
def roadbooklaw20_few.l0 : Nat → List (List (S76)) → Bool → Int → Option (Bool)
  | 0, _, _, _ => none
  | k + 1, x0, x5, x6 => if x6 < (x0.length : Int) then (if x5 = true then (if 0 ≤ x6 then (roadbooklaw20_few.l0 k x0 (decide (((rd_L5 x0 x6).length : Int) ≤ 12)) (wrap64 (x6 + 1))) else (none)) else (some x5)) else (some x5)
end
def roadbooklaw20_few.f (k : Nat) (l0 : List (List (S76))) (l1 : List Int) : Option (Bool) := if (l0.length : Int) ≤ 12 then (roadbooklaw20_few.j0 k l0 (decide ((l1.length : Int) ≤ 200))) else (roadbooklaw20_few.j0 k l0 false)
theorem roadbooklaw20_few.mono_l : ∀ k, (∀ y0 y1, LeO (roadbooklaw20_few.j0 k y0 y1) (roadbooklaw20_few.j0 (k + 1) y0 y1)) ∧ (∀ y0 y1 y2, LeO (roadbooklaw20_few.l0 k y0 y1 y2) (roadbooklaw20_few.l0 (k + 1) y0 y1 y2))
  | 0 => ⟨fun _ _ r h => by simp [roadbooklaw20_few.j0] at h, fun _ _ _ r h => by simp [roadbooklaw20_few.l0] at h⟩
  | k + 1 => by
    obtain ⟨ih0, ih1⟩ := roadbooklaw20_few.mono_l k
    refine ⟨?_, ?_⟩
    · intro y0 y1
      unfold roadbooklaw20_few.j0
      repeat' first
      | (with_reducible exact ih1 _ _ _)

    · intro y0 y1 y2
      unfold roadbooklaw20_few.l0
      repeat' first
      | (with_reducible exact ih1 _ _ _)
      | (with_reducible exact LeO.refl _)
      | (with_reducible refine LeO.ite ?_ ?_)

theorem roadbooklaw20_few.mono : ∀ a0 a1 k, LeO (roadbooklaw20_few.f k a0 a1) (roadbooklaw20_few.f (k + 1) a0 a1) := by
  intro a0 a1 k
  obtain ⟨ih0, ih1⟩ := roadbooklaw20_few.mono_l k
  unfold roadbooklaw20_few.f
  repeat' first
      | (with_reducible exact ih0 _ _)
      | (with_reducible refine LeO.ite ?_ ?_)

set_option maxHeartbeats 8000000 in
set_option maxRecDepth 100000 in
theorem roadbooklaw20_few.calls (k : Nat) (A0 : Option Addr) (c0 : Nat) (l0 : List (List (S76))) (A1 : Option Addr) (c1 : Nat) (l1 : List Int) (r : Bool) (w : World) (hr0 : Kd.C (Kd.slice 76 k76) w A0 l0.length l0) (hc0 : l0.length ≤ c0) (hr1 : Kd.C (Kd.int .i64) w A1 l1.length l1) (hc1 : l1.length ≤ c1) (h : roadbooklaw20_few.f k l0 l1 = some r) :
    Calls Try.prog 57 #[.slice A0 l0.length c0, .slice A1 l1.length c1] w fun e w' => e = .returned (.bool r) ∧ Drawn0 w w' := by
  have HR0 := Aside0.mk hr0
  have HC0 := Aside0.mk hc0
  clear hr0 hc0
  have HR1 := Aside0.mk hr1
  have HC1 := Aside0.mk hc1
  clear hr1 hc1
  have H : (if (l0.length : Int) ≤ 12 then (roadbooklaw20_few.j0 k l0 (decide ((l1.length : Int) ≤ 200))) else (roadbooklaw20_few.j0 k l0 false)) = some r := h
  clear h
  have HC3 := Aside0.mk H
  clear H
  go_enter Try.func57, Try.ntmps57
  go_upto_region 1 with (fail)
  go_cut [5] (fun v5 wc => ∃ (kq : Nat) (x5_2 : Bool), v5 = .bool x5_2 ∧ Aside0 (roadbooklaw20_few.j0 kq l0 x5_2 = some r) ∧ Aside0 (kq ≤ k) ∧ Drawn0 w wc)
  case first =>
    have H := HC3.out
    clear HC3
    by_cases c4 : (l0.length : Int) ≤ 12
    · rw [if_pos c4] at H
      have c4b0 : decide ((l0.length : Int) ≤ 12) = true := decide_eq_true c4
      have c4b1 : decide (l0.length ≤ 12) = true := decide_eq_true (by omega)
      clear c4
      (skip)
      have H' := Aside0.mk H
      clear H
      go_wp2
      go_meet
      case rel => exact ⟨_, (decide ((l1.length : Int) ≤ 200)), (by rfl), H', ⟨by omega⟩, by repeat (exact Drawn0.refl _)⟩
    · rw [if_neg c4] at H
      have c4b0 : decide ((l0.length : Int) ≤ 12) = false := decide_eq_false c4
      have c4b1 : decide (l0.length ≤ 12) = false := decide_eq_false (by omega)
      clear c4
      (skip)
      have H' := Aside0.mk H
      clear H
      go_wp2
      go_meet
      case rel => exact ⟨_, (false), (by rfl), H', ⟨by omega⟩, by repeat (exact Drawn0.refl _)⟩
  case rest =>
    clear HC3
    obtain ⟨kq, x5_2, rfl, HA, HJ2, ⟨mc2, rfl⟩⟩ := hcut
    cases kq with
    | zero => exact absurd HA.out (by simp [roadbooklaw20_few.j0])
    | succ kj2 =>
      have H := HA.out
      clear HA
      simp only [roadbooklaw20_few.j0] at H
      have H' := Aside0.mk H
      clear H
      go_wp2
      go_loopg [5, 6] kj2 (fun kq v5 v6 w' => ∃ (x5_2 : Bool) (x6_2 : Int), v5 = .bool x5_2 ∧ v6 = .int .i64 x6_2 ∧ Aside0 (roadbooklaw20_few.l0 kq l0 x5_2 x6_2 = some r) ∧ Aside0 (kq ≤ kj2) ∧ Drawn0 w w')
      case atStart => exact ⟨(x5_2), (0), (by rfl), (by rfl), H', ⟨Nat.le_refl _⟩, by repeat (first | exact Drawn0.refl _ | apply Drawn0.step)⟩
      case round =>
        clear H'
        obtain ⟨x5_2, x6_2, rfl, rfl, HA, HK2, ⟨m2, rfl⟩⟩ := hrel
        cases gk with
        | zero => exact absurd HA.out (by simp [roadbooklaw20_few.l0])
        | succ k2 =>
          have H := HA.out
          clear HA
          simp only [roadbooklaw20_few.l0] at H
          by_cases c5 : x6_2 < (l0.length : Int)
          · rw [if_pos c5] at H
            have c5b0 : decide (x6_2 < (l0.length : Int)) = true := decide_eq_true c5
            clear c5
            by_cases c6 : x5_2 = true
            · subst c6
              rw [if_pos rfl] at H
              by_cases c7 : 0 ≤ x6_2
              · rw [if_pos c7] at H
                have c7b0 : decide (0 ≤ x6_2) = true := decide_eq_true c7
                clear c7
                have H' := Aside0.mk H
                clear H
                have p11 : 0 ≤ (x6_2 : Int) := of_decide_eq_true (by (with_reducible assumption))
                have q11 : x6_2 < (l0.length : Int) := of_decide_eq_true (by (with_reducible assumption))
                obtain ⟨ad11, A11_0, c11_0, e11, hx11_0, hl11_0, hi11_0⟩ := at_L5 HR0.out x6_2 p11 q11
                cases e11
                have HR11_0 := Aside0.mk hi11_0
                have HC11_0 := Aside0.mk hl11_0
                clear hi11_0 hl11_0
                replace p11 := eq_true p11
                replace q11 := eq_true q11
                go_wp2
                go_roundg k2
                case measure => have := HJ2.out; have := HK2.out; omega
                case rel => exact ⟨(decide (((rd_L5 l0 x6_2).length : Int) ≤ 12)), (wrap64 (x6_2 + 1)), (by rfl), (by rfl), H', ⟨by have := HJ2.out; have := HK2.out; omega⟩, by repeat (first | exact Drawn0.refl _ | apply Drawn0.step)⟩
              · rw [if_neg c7] at H
                exact absurd H (by simp)
            · replace c6 := Bool.eq_false_iff.mpr c6
              subst c6
              rw [if_neg (show ¬ (false = true) by decide)] at H
              obtain rfl := Option.some.inj H
              go_wp2
              go_ret
              exact ⟨by rfl, by repeat (first | exact Drawn0.refl _ | apply Drawn0.step)⟩
          · rw [if_neg c5] at H
            have c5b0 : decide (x6_2 < (l0.length : Int)) = false := decide_eq_false c5
            clear c5
            obtain rfl := Option.some.inj H
            go_wp2
            go_ret
            exact ⟨by rfl, by repeat (first | exact Drawn0.refl _ | apply Drawn0.step)⟩

end Go.Proofs.Ytkidnomkfdnciaa.All
