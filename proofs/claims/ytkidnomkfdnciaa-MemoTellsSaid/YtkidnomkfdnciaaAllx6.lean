/- Functions of the program as plain Lean functions, and proofs that the calls do what these say; written for this claim by a program of the session (wip/tools/mkprint.py), checked by Lean. -/
import Derived.Test.YtkidnomkfdnciaaSpec
import Derived.RegionTactic
import Derived.ChangeAlike
import Derived.Test.YtkidnomkfdnciaaAllx0
namespace Go.Proofs.Ytkidnomkfdnciaa.All
open Go.RowKit Go.Proofs.YtkidnomkfdnciaaW.PrintWords Go.Proofs.YtkidnomkfdnciaaW.PrintLast Go.Proofs.YtkidnomkfdnciaaW.PrintMore
attribute [local go_sem] max2_int min2_int max_two min_two max_three min_three max_four min_four   -- for this text's walks alone
set_option linter.unusedVariables false
set_option linter.unusedSimpArgs false

/-! ### memo_canon: function 79 -/
def memo_canon.f (a0_0 : Bool) (a0_1 : Int) (a0_2 : Int) (a0_3 : Int) (l1 : List Int) : Option (Bool × Int × Int × Int) :=
  if a0_0 = true then (if (inB l1 a0_2 && inB l1 a0_3) = true then some (a0_0, a0_1, rd l1 a0_2, rd l1 a0_3) else none) else some (a0_0, a0_1, a0_2, a0_3)
set_option maxHeartbeats 8000000 in
set_option maxRecDepth 100000 in
theorem canon_no (a1 a2 a3 : Int) (A1 : Option Addr) (c1 : Nat) (n1 : Nat) (w : World) :
    Calls Try.prog 79 #[.agg #[.bool false, .int .i64 a1, .int .i64 a2, .int .i64 a3], .slice A1 n1 c1] w fun e w' => e = .returned (.agg #[.bool false, .int .i64 a1, .int .i64 a2, .int .i64 a3]) ∧ Below w.heap.size w w' := by
  go_enter Try.func79, Try.ntmps79
  go_wp2
  exact bodyPost_ret (v := .agg #[.bool false, .int .i64 a1, .int .i64 a2, .int .i64 a3]) (by simp [results, Try.results79, go_sem]) rfl ⟨rfl, ((Below.refl _ _).alloc (Nat.le_refl _) _).alloc (by simp) _⟩
set_option maxHeartbeats 8000000 in
set_option maxRecDepth 100000 in
theorem canon_yes (a1 a2 a3 : Int) (A1 : Option Addr) (c1 : Nat) (l1 : List Int) (w : World) (hr1 : Kd.C (Kd.int .i64) w A1 l1.length l1) (hc1 : l1.length ≤ c1) (h2 : 0 ≤ a2) (h2' : a2 < l1.length) (h3 : 0 ≤ a3) (h3' : a3 < l1.length) :
    Calls Try.prog 79 #[.agg #[.bool true, .int .i64 a1, .int .i64 a2, .int .i64 a3], .slice A1 l1.length c1] w fun e w' => e = .returned (.agg #[.bool true, .int .i64 a1, .int .i64 (rd l1 a2), .int .i64 (rd l1 a3)]) ∧ Below w.heap.size w w' := by
  obtain ⟨ad, rfl, hca⟩ := Kd.at_int hr1 a2 h2 h2'
  obtain ⟨ad', e, hcb⟩ := Kd.at_int hr1 a3 h3 h3'
  cases e
  obtain ⟨x, hx⟩ : ∃ x, x = rd l1 a2 := ⟨_, rfl⟩
  obtain ⟨y, hy⟩ : ∃ y, y = rd l1 a3 := ⟨_, rfl⟩
  rw [← hx] at hca ⊢
  rw [← hy] at hcb ⊢
  have hxa : ∀ o1 o2, ((w.alloc o1).alloc o2).cell? (ad.add a2.toNat) = some (.int .i64 x) := fun o1 o2 => (Kd.at_int (Kd.C_alloc (Kd.C_alloc hr1 o1) o2) a2 h2 h2').elim fun _ h => by cases h.1; rw [hx]; exact h.2
  have hxb : ∀ o1 o2, ((w.alloc o1).alloc o2).cell? (ad.add a3.toNat) = some (.int .i64 y) := fun o1 o2 => (Kd.at_int (Kd.C_alloc (Kd.C_alloc hr1 o1) o2) a3 h3 h3').elim fun _ h => by cases h.1; rw [hy]; exact h.2
  clear hr1 hc1 hx hy hca hcb
  go_enter Try.func79, Try.ntmps79
  go_wp2
  go_region
  go_wp2
  refine bodyPost_ret (v := .agg #[.bool true, .int .i64 a1, .int .i64 x, .int .i64 y]) (by simp [results, Try.results79, go_sem]) rfl ⟨rfl, ?_⟩
  repeat (first | exact Below.refl _ _ | refine Below.drew ?_ | refine Below.alloc ?_ (by simp) _)
theorem memo_canon.calls (a0_0 : Bool) (a0_1 : Int) (a0_2 : Int) (a0_3 : Int) (A1 : Option Addr) (c1 : Nat) (l1 : List Int) (r1 : Bool) (r2 : Int) (r3 : Int) (r4 : Int) (w : World) (hr1 : Kd.C (Kd.int .i64) w A1 l1.length l1) (hc1 : l1.length ≤ c1) (h : memo_canon.f a0_0 a0_1 a0_2 a0_3 l1 = some (r1, r2, r3, r4)) :
    Calls Try.prog 79 #[.agg #[.bool a0_0, .int .i64 a0_1, .int .i64 a0_2, .int .i64 a0_3], .slice A1 l1.length c1] w fun e w' => e = .returned (.agg #[.bool r1, .int .i64 r2, .int .i64 r3, .int .i64 r4]) ∧ Below w.heap.size w w' := by
  unfold memo_canon.f at h
  cases a0_0 with
  | false =>
    have h := Option.some.inj h
    obtain ⟨rfl, rfl, rfl, rfl⟩ := h
    exact canon_no _ _ _ _ _ _ _
  | true =>
    rw [if_pos rfl] at h
    split at h
    · rename_i hh
      have h := Option.some.inj h
      obtain ⟨rfl, rfl, rfl, rfl⟩ := h
      simp only [Bool.and_eq_true, inB, decide_eq_true_eq] at hh
      exact canon_yes _ _ _ _ _ _ _ hr1 hc1 hh.1.1 hh.1.2 hh.2.1 hh.2.2
    · cases h

end Go.Proofs.Ytkidnomkfdnciaa.All
