/- Functions of the program as plain Lean functions, and proofs that the calls do what these say; written for this claim by a program of the session (wip/tools/mkprint.py), checked by Lean. -/
import Derived.Test.YtkidnomkfdnciaaRunG
import Derived.Test.YtkidnomkfdnciaaAllx0
import Derived.Test.YtkidnomkfdnciaaAllx9
import Derived.Test.YtkidnomkfdnciaaAllx13
import Derived.Test.YtkidnomkfdnciaaAllx26
namespace Go.Proofs.Ytkidnomkfdnciaa.All
open Go.RowKit Go.Proofs.YtkidnomkfdnciaaW.PrintWords Go.Proofs.YtkidnomkfdnciaaW.PrintLast Go.Proofs.YtkidnomkfdnciaaW.PrintMore
attribute [local go_sem] max2_int min2_int max_two min_two max_three min_three max_four min_four   -- for this text's walks alone
set_option linter.unusedVariables false
set_option linter.unusedSimpArgs false

/-! ### calls_Run: function 59 -/
theorem runDo_mono (k : Nat) (N : List S48) (G P : List Int) (c : S76) : LeO (runDo k N G P c) (runDo (k + 1) N G P c) := calls_Do.mono _ _ _ _ _ _ _ _ _ _ k
theorem midO_mono (k : Nat) (s : St) (i : Nat) : LeO (midO k s i) (midO (k + 1) s i) := by
  unfold midO
  exact LeO.ite (LeO.refl _) (LeO.ite (LeO.bind (runDo_mono _ _ _ _ _) (fun _ => LeO.refl _)) (LeO.refl _))
theorem stepO_mono (k : Nat) (s : St) (i : Nat) : LeO (stepO k s i) (stepO (k + 1) s i) := by
  unfold stepO
  exact LeO.ite (LeO.bind (midO_mono _ _ _) (fun _ => LeO.refl _)) (LeO.refl _)
theorem scriptO_mono (k n : Nat) : ∀ (sc : List Int) (s : St), LeO (scriptO k n sc s) (scriptO (k + 1) n sc s)
  | [], s => LeO.refl _
  | x :: t, s => by
    rw [scriptO, scriptO]
    exact LeO.ite (LeO.bind (stepO_mono _ _ _) (fun _ => scriptO_mono k n t _)) (scriptO_mono k n t s)
theorem finO_mono (k i : Nat) : ∀ (f : Nat) (s : St), LeO (finO k i f s) (finO (k + 1) i (f + 1) s)
  | 0, s => LeO.none _
  | f + 1, s => by
    rw [finO, finO]
    exact LeO.ite (LeO.bind (stepO_mono _ _ _) (fun _ => finO_mono k i f _)) (LeO.refl _)
theorem lastO_mono (k : Nat) : ∀ (d i : Nat) (s : St), LeO (lastO k d i s) (lastO (k + 1) d i s)
  | 0, i, s => LeO.refl _
  | d + 1, i, s => by
    rw [lastO, lastO]
    exact LeO.bind (finO_mono k i k s) (fun _ => lastO_mono k d (i + 1) _)
def runS (k : Nat) (N : List S48) (G P : List Int) (l : List (List S76)) (sc : List Int) : Option St := (scriptO k l.length sc ⟨N, G, P, [], l.map mkOne⟩).bind (lastO k l.length 0)
def calls_Run.f (k : Nat) (l0_0 : List (S48)) (l0_1 : List Int) (l0_2 : List Int) (l1 : List (List (S76))) (l2 : List Int) : Option ((List (S48)) × List Int × List Int × (List (List (S73))) × (List (S68))) :=
  if lim3 l0_0 l0_1 l0_2 = true then (if 64 < l1.length ∨ l1.any manyB = true then some (l0_0, l0_1, l0_2, [], []) else (runS k l0_0 l0_1 l0_2 l1 l2).bind fun s => some (s.N, s.G, s.P, s.ones.map One.ended, s.ev)) else none
theorem calls_Run.mono : ∀ a0 a1 a2 a3 a4 k, LeO (calls_Run.f k a0 a1 a2 a3 a4) (calls_Run.f (k + 1) a0 a1 a2 a3 a4) := by
  intro a0 a1 a2 a3 a4 k
  unfold calls_Run.f runS
  exact LeO.ite (LeO.ite (LeO.refl _) (LeO.bind (LeO.bind (scriptO_mono _ _ _ _) (fun _ => lastO_mono _ _ _ _)) (fun _ => LeO.refl _))) (LeO.refl _)
theorem calls_Run.calls (k : Nat) (A0_0 : Option Addr) (c0_0 : Nat) (l0_0 : List (S48)) (A0_1 : Option Addr) (c0_1 : Nat) (l0_1 : List Int) (A0_2 : Option Addr) (c0_2 : Nat) (l0_2 : List Int) (A1 : Option Addr) (c1 : Nat) (l1 : List (List (S76))) (A2 : Option Addr) (c2 : Nat) (l2 : List Int) (r1 : List (S48)) (r2 : List Int) (r3 : List Int) (r4 : List (List (S73))) (r5 : List (S68)) (w : World) (hr0_0 : Kd.C k48 w A0_0 l0_0.length l0_0) (hc0_0 : l0_0.length ≤ c0_0) (hr0_1 : Kd.C (Kd.int .i64) w A0_1 l0_1.length l0_1) (hc0_1 : l0_1.length ≤ c0_1) (hr0_2 : Kd.C (Kd.int .i64) w A0_2 l0_2.length l0_2) (hc0_2 : l0_2.length ≤ c0_2) (hr1 : Kd.C (Kd.slice 76 k76) w A1 l1.length l1) (hc1 : l1.length ≤ c1) (hr2 : Kd.C (Kd.int .i64) w A2 l2.length l2) (hc2 : l2.length ≤ c2) (h : calls_Run.f k l0_0 l0_1 l0_2 l1 l2 = some (r1, r2, r3, r4, r5)) :
    Calls Try.prog 59 #[.agg #[.slice A0_0 l0_0.length c0_0, .slice A0_1 l0_1.length c0_1, .slice A0_2 l0_2.length c0_2], .slice A1 l1.length c1, .slice A2 l2.length c2] w fun e w' => ∃ v0_ v1_ v2_ v3_ v4_ : Value, e = .returned (.tuple #[.agg #[v0_, v1_, v2_], v3_, v4_]) ∧ Kd.R k48 48 w' w.heap.size (fun _ => True) v0_ r1 ∧ Kd.R (Kd.int .i64) 3 w' w.heap.size (fun k_ => some k_ ≠ (v2_ : Value).ownBlock) v1_ r2 ∧ Kd.R (Kd.int .i64) 3 w' w.heap.size (fun k_ => some k_ ≠ (v1_ : Value).ownBlock) v2_ r3 ∧ Kd.S (Kd.slice 73 k73) 71 w' w.heap.size (fun _ => True) v3_ r4 ∧ Kd.R k68 68 w' w.heap.size (fun _ => True) v4_ r5 ∧ Below w.heap.size w w' := by
  have hM : MemoAt w A0_0 c0_0 l0_0 A0_1 c0_1 l0_1 A0_2 c0_2 l0_2 := ⟨hr0_0, hc0_0, hr0_1, hc0_1, hr0_2, hc0_2⟩
  unfold calls_Run.f at h
  by_cases hl : lim3 l0_0 l0_1 l0_2 = true
  · rw [if_pos hl] at h
    by_cases hno : 64 < l1.length ∨ l1.any manyB = true
    · rw [if_pos hno] at h
      simp only [Option.some.injEq, Prod.mk.injEq] at h
      obtain ⟨rfl, rfl, rfl, rfl, rfl⟩ := h
      have hno' : 64 < l1.length ∨ (¬ 64 < l1.length ∧ l1.any manyB = true) := by
        by_cases h6 : 64 < l1.length
        · exact .inl h6
        · exact .inr ⟨h6, hno.resolve_left h6⟩
      exact (Run_no (s := l2) (A2 := A2) (c2 := c2) hM hr1 hc1 hl hno').mono fun e w' ⟨v0, v1, v2, he, h0, h1, h2, hb⟩ => ⟨v0, v1, v2, _, _, he, h0, h1, h2, Kd.S_nil _ _ _ _ _, Kd.R_nil _ _ _ _ _, hb⟩
    · rw [if_neg hno] at h
      obtain ⟨s, hs, h⟩ := Option.bind_eq_some_iff.1 h
      simp only [Option.some.injEq, Prod.mk.injEq] at h
      obtain ⟨rfl, rfl, rfl, rfl, rfl⟩ := h
      obtain ⟨s1, h1, h2⟩ := Option.bind_eq_some_iff.1 hs
      exact Run_yes k hM hr1 hc1 hr2 hl (fun h6 => hno (.inl h6)) (by cases hq : l1.any manyB with | true => exact absurd (.inr hq) hno | false => rfl) h1 h2
  · rw [if_neg hl] at h; cases h

end Go.Proofs.Ytkidnomkfdnciaa.All
