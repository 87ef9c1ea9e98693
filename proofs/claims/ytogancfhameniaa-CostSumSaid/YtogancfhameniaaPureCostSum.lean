/- The sum of any costs (at most 1000 in each of two lists) is the same in the reverse order, and what the sums of two parts come to together; none is less than one of its parts that is a cost. No further condition. -/
import Derived.Test.YtogancfhameniaaPlain
namespace Go.Proofs.Ytogancfhameniaa.Pure
open Go.RowKit Go.Proofs.Ytogancfhameniaa.Cost Go.Proofs.YtogancfhameniaaW.PrintWords Go.Proofs.YtogancfhameniaaW.PrintLast Go.Proofs.YtogancfhameniaaW.PrintMore

theorem back_loop (l k : List Int) (hl : l.length ≤ 1000) (R : Option Bool) (K : Nat)
    (hR : ∀ n, K ≤ n → roadbooklaw10_CostSum.l0 n l k l.reverse 0 = R) (i : Nat) : ∀ n, i ≤ l.length → K + i ≤ n →
    roadbooklaw10_CostSum.l0 n l k ((l.drop i).reverse) (i : Int) = R := by
  induction i with
  | zero => intro n _ hn; rw [List.drop_zero]; exact hR n (by omega)
  | succ i ih =>
    intro n hi hn
    obtain ⟨n, rfl⟩ : ∃ m, n = m + 1 := ⟨n - 1, by omega⟩
    have e : wrap64 (((i + 1 : Nat) : Int) - 1) = (i : Int) := by rw [wrap_in (by omega) (by omega)]; omega
    have hlen : (l.drop (i + 1)).reverse.length < 17592186044416 := by simp; omega
    simp only [roadbooklaw10_CostSum.l0]
    rw [if_pos (by omega), e, if_pos (by omega), if_pos (by omega), if_pos hlen, rd_at l i (by omega)]
    have := ih n (by omega) (by omega)
    rw [List.drop_eq_getElem_cons (by omega), List.reverse_cons] at this
    exact this
theorem part_loop (l k b : List Int) (x8 x9 : Int) (hl : l.length ≤ 1000) (hp : ∀ j (h : j < l.length), l[j] ≤ 1125899906842624 → l[j] ≤ x8) (R : Option Bool) (K : Nat)
    (hR : ∀ n, K ≤ n → roadbooklaw10_CostSum.l1 n l k b x8 x9 (l.length : Int) = R) (d : Nat) : ∀ n i : Nat, i + d = l.length → K + d ≤ n →
    roadbooklaw10_CostSum.l1 n l k b x8 x9 (i : Int) = R := by
  induction d with
  | zero => intro n i hi hn; obtain rfl : i = l.length := by omega
            exact hR n (by omega)
  | succ d ih =>
    intro n i hi hn
    obtain ⟨n, rfl⟩ : ∃ m, n = m + 1 := ⟨n - 1, by omega⟩
    have hlt : i < l.length := by omega
    have e : wrap64 ((i : Int) + 1) = ((i + 1 : Nat) : Int) := by rw [wrap_in (by omega) (by omega)]; omega
    simp only [roadbooklaw10_CostSum.l1]
    rw [if_pos (by omega), if_pos (by omega), rd_at l i hlt, e, ih n (i + 1) (by omega) (by omega)]
    by_cases h : l[i] ≤ 1125899906842624
    · rw [if_pos h, if_neg (by have := hp i hlt h; omega)]
    · rw [if_neg h]
theorem CostSum : roadbooklaw10_CostSum.Pure := by
  intro l k hm hs hw hm' hs' hw'
  refine ⟨10000, ?_⟩
  unfold roadbooklaw10_CostSum.f
  rw [awake_some _ (by omega)]
  simp only [Option.bind_some, if_true]
  by_cases h1 : (l.length : Int) > 1000
  · rw [if_pos h1]; simp [roadbooklaw10_CostSum.j0]
  rw [if_neg h1]
  by_cases h2 : (k.length : Int) > 1000
  · rw [decide_eq_true h2]; simp [roadbooklaw10_CostSum.j0]
  rw [decide_eq_false h2]
  simp only [roadbooklaw10_CostSum.j0, Bool.false_eq_true, if_false]
  have hb := back_loop l k (by omega) (some true) 5000 ?_ l.length 9999 (Nat.le_refl _) (by omega)
  · rw [List.drop_length] at hb; exact hb
  intro n hn
  obtain ⟨n, rfl⟩ : ∃ m, n = m + 1 := ⟨n - 1, by omega⟩
  simp only [roadbooklaw10_CostSum.l0]
  rw [if_neg (by omega), add_some l n (by omega) (by omega)]
  simp only [Option.bind_some]
  rw [if_pos (by simp; omega)]
  simp only [List.nil_append]
  rw [if_pos (by omega), add_some (l ++ k) n (by simp; omega) (by simp; omega)]
  simp only [Option.bind_some]
  have hcl := csum_pos l
  have hck := csum_pos k
  refine part_loop l k l.reverse _ _ (by omega) ?_ (some true) 3000 ?_ l.length n 0 (by omega) (by omega)
  · intro j hj hle
    have := csum_mem (List.getElem_mem hj)
    unfold clampS at this
    unfold addS
    omega
  intro n hn
  obtain ⟨n, rfl⟩ : ∃ m, n = m + 1 := ⟨n - 1, by omega⟩
  simp only [roadbooklaw10_CostSum.l1]
  rw [if_neg (by omega), add_some l.reverse n (by simp; omega) (by simp; omega), add_some k n (by omega) (by omega)]
  simp only [Option.bind_some]
  rw [add_two _ _ n (by omega)]
  simp only [Option.bind_some]
  rw [if_pos (by unfold addS; rw [csum_reverse]), if_pos (by unfold addS clampS; rw [csum_append]; omega)]
  congr 1
  rw [decide_eq_true_eq]
  unfold addS; rw [csum_append]; omega
end Go.Proofs.Ytogancfhameniaa.Pure
