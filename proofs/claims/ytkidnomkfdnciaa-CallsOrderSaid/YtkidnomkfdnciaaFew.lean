/- What few and place of the laws on calls tell. Nothing is proved of the program here. -/
import Derived.Test.YtkidnomkfdnciaaCalls4
import Derived.Test.YtkidnomkfdnciaaAllx51
namespace Go.Proofs.Ytkidnomkfdnciaa.Pure
open Go.RowKit Go.Proofs.Ytkidnomkfdnciaa.All Go.Proofs.YtkidnomkfdnciaaW.PrintWords
theorem up1 {i : Nat} (h : i < 1000000) : wrap64 ((i : Int) + 1) = ((i + 1 : Nat) : Int) := by
  rw [wrap_in (by omega) (by omega)]; simp
theorem few20_loop {L : List (List S76)} {Q : Prop} : ∀ (d i k : Nat) (b : Bool), i + d = L.length → L.length ≤ 12 → d < k → (b = true → Q ∧ ∀ j, j < i → (L.getD j []).length ≤ 12) → ∃ b', roadbooklaw20_few.l0 k L b (i : Int) = some b' ∧ (b' = true → Q ∧ Small L)
  | 0, i, k, b, hi, hl, hk, h => by
    obtain ⟨k, rfl⟩ : ∃ j, k = j + 1 := ⟨k - 1, by omega⟩
    rw [roadbooklaw20_few.l0, if_neg (by omega)]
    exact ⟨b, rfl, fun e => ⟨(h e).1, hl, fun j hj => (h e).2 j (by omega)⟩⟩
  | d + 1, i, k, b, hi, hl, hk, h => by
    obtain ⟨k, rfl⟩ : ∃ j, k = j + 1 := ⟨k - 1, by omega⟩
    rw [roadbooklaw20_few.l0, if_pos (by omega)]
    cases b with
    | false => exact ⟨false, by simp, fun e => by cases e⟩
    | true =>
      rw [if_pos rfl, if_pos (by omega), up1 (by omega)]
      refine few20_loop d (i + 1) k _ (by omega) hl (by omega) (fun e => ⟨(h rfl).1, fun j hj => ?_⟩)
      by_cases e2 : j < i
      · exact (h rfl).2 j e2
      · obtain rfl : j = i := by omega
        have := of_decide_eq_true e
        unfold rd_L5 at this
        rw [Int.toNat_natCast] at this
        omega
theorem few20_k0 (L : List (List S76)) (sc : List Int) {k : Nat} (hk : 20 ≤ k) : ∃ b, roadbooklaw20_few.f k L sc = some b ∧ (b = true → sc.length ≤ 200 ∧ Small L) := by
  obtain ⟨k, rfl⟩ : ∃ j, k = j + 1 := ⟨k - 1, by omega⟩
  unfold roadbooklaw20_few.f
  by_cases hl : (L.length : Int) ≤ 12
  · rw [if_pos hl, roadbooklaw20_few.j0]
    exact few20_loop L.length 0 k _ (by omega) (by omega) (by omega) (fun e => ⟨by have := of_decide_eq_true e; omega, fun j hj => by omega⟩)
  · rw [if_neg hl, roadbooklaw20_few.j0]
    obtain ⟨k, rfl⟩ : ∃ j, k = j + 1 := ⟨k - 1, by omega⟩
    rw [roadbooklaw20_few.l0]
    refine ⟨false, ?_, fun e => by cases e⟩
    simp
theorem few20_k (L : List (List S76)) (sc : List Int) : ∃ b, (∀ k, 20 ≤ k → roadbooklaw20_few.f k L sc = some b) ∧ (b = true → sc.length ≤ 200 ∧ Small L) := by
  obtain ⟨b, h, hr⟩ := few20_k0 L sc (k := 20) (by omega)
  refine ⟨b, fun k hk => ?_, hr⟩
  obtain ⟨d, rfl⟩ : ∃ d, k = 20 + d := ⟨k - 20, by omega⟩
  clear hk
  induction d with
  | zero => exact h
  | succ d ih => exact roadbooklaw20_few.mono _ _ _ _ ih
end Go.Proofs.Ytkidnomkfdnciaa.Pure
