/- Of sets that may be each beginning may be; numbers each by itself are as many as asked for, or none; two that are joined leave one set fewer if they were two, else as many, and the list keeps its length. For all lists and numbers. No further condition. -/
import Derived.Test.YtkidnomkfdnciaaSets2
import Derived.Test.YtkidnomkfdnciaaAllx39
namespace Go.Proofs.Ytkidnomkfdnciaa.Pure
open Go.RowKit Go.Proofs.Ytkidnomkfdnciaa.All Go.Proofs.YtkidnomkfdnciaaW.PrintWords
theorem take_may {p : List Int} (h : mayB p = true) (n : Nat) : mayB (p.take n) = true := by
  refine mayB_of (fun i hi => ?_) (by have := mayB_len h; rw [List.length_take]; omega)
  rw [List.length_take] at hi
  have := mayB_at h i (by omega)
  rw [show (p.take n).getD i 0 = p.getD i 0 from by simp [List.getD_eq_getElem?_getD, show i < n by omega]]
  exact this
theorem least_loop (p : List Int) (hp : mayB p = true) (d : Nat) : ∀ (k i : Nat), i + d = p.length → d < k →
    roadbooklaw15_least.l0 k (rootsS p) ((cnt (fun j => decide (rootN p j = j)) i : Nat) : Int) (i : Int) = some ((sets p : Nat) : Int) := by
  have hl := mayB_len hp
  have hr := rootsS_length p hp
  induction d with
  | zero =>
    intro k i hi hk
    obtain ⟨k, rfl⟩ : ∃ m, k = m + 1 := ⟨k - 1, by omega⟩
    simp only [roadbooklaw15_least.l0]
    rw [if_neg (by omega), show i = p.length by omega]
    rfl
  | succ d ih =>
    intro k i hi hk
    obtain ⟨k, rfl⟩ : ∃ m, k = m + 1 := ⟨k - 1, by omega⟩
    have hc := cnt_le (fun j => decide (rootN p j = j)) i
    have hn := ih k (i + 1) (by omega) (by omega)
    simp only [roadbooklaw15_least.l0]
    rw [if_pos (by omega), if_pos (by omega), rd_getD, rootsS_at hp (by omega), wrap_in (x := (i : Int) + 1) (by omega) (by omega)]
    unfold cnt at hn
    by_cases h : rootN p i = i
    · rw [if_pos (by omega), wrap_in (by omega) (by omega)]
      rw [if_pos (by rw [decide_eq_true_eq]; exact h)] at hn
      exact hn
    · rw [if_neg (by omega)]
      rw [if_neg (by rw [decide_eq_true_eq]; exact h)] at hn
      exact hn
theorem least_k (p : List Int) (hp : mayB p = true) (k : Nat) (hk : p.length < k) : roadbooklaw15_least.f k p = some ((sets p : Nat) : Int) := by
  unfold roadbooklaw15_least.f sets_Roots.f
  simp only [Option.bind_some]
  exact least_loop p hp p.length k 0 (by omega) hk
theorem sets_le (p : List Int) : sets p ≤ p.length := cnt_le _ _
theorem may_tail (p : List Int) (a b n : Int) (K : Nat) (hK : p.length + 1000 ≤ K) (hs : p.length * 8 ≤ 140737488351232) (hp : mayB p = true) : roadbooklaw15_SetsMay.j1 (K + 1) p a b n false = some true := by
  have hl := mayB_len hp
  simp only [roadbooklaw15_SetsMay.j1, Bool.false_eq_true, if_false]
  rw [join_k p a b _ (by omega)]
  simp only [Option.bind_some]
  rcases join_cases p a b with ⟨h1, _⟩ | ⟨h, _⟩
  · rw [h1, if_neg (by simp), new_k n _ (by omega)]
    simp only [Option.bind_some]
    rcases newS_length n with h2 | h2
    · rw [if_pos h2]
    · split
      · rfl
      · rw [h2, beq_self_eq_true]
  · have e := joined_length h
    have hsets := joined_sets h
    have h1 := sets_le p
    have k1 := least_k p hp K (by omega)
    have k2 := least_k (joinP p a b) (joined_may h) K (by omega)
    obtain ⟨s, es⟩ : ∃ s, s = sets p := ⟨_, rfl⟩
    obtain ⟨s', es'⟩ : ∃ s, s = sets (joinP p a b) := ⟨_, rfl⟩
    rw [← es] at k1 h1 hsets
    rw [← es'] at k2 hsets
    clear es es'
    rw [joined_eq h, if_pos rfl]
    simp only [sets_Find.f, Option.bind_some]
    rw [findS_in hp h.a0 h.al, findS_in hp h.b0 h.bl, k1, k2, Option.bind_some, Option.bind_some, Option.bind_some, Option.bind_some]
    by_cases he : rootN p a.toNat = rootN p b.toNat
    · rw [if_pos he] at hsets
      rw [if_pos (by omega), wrap_in (by omega) (by omega), if_pos (by omega), e, beq_self_eq_true]
    · rw [if_neg he] at hsets
      rw [if_neg (by omega), wrap_in (by omega) (by omega), if_pos (by omega), e, beq_self_eq_true]
theorem SetsMay : roadbooklaw15_SetsMay.Pure := by
  intro p a b n hm hs hw wa wb wn
  obtain ⟨K, hK⟩ : ∃ K, K = p.length + 2000 := ⟨_, rfl⟩
  refine ⟨K + 1 + 1, ?_⟩
  unfold roadbooklaw15_SetsMay.f roadbooklaw15_awake.f
  rw [may_k p _ (by omega) (by omega)]
  simp only [Option.bind_some, if_true]
  cases hp : mayB p with
  | false => simp [roadbooklaw15_SetsMay.j0]
  | true =>
    have J1 := may_tail p a b n K (by omega) hs hp
    have hl := mayB_len hp
    simp only [roadbooklaw15_SetsMay.j0, Bool.not_true, Bool.false_eq_true, if_false]
    by_cases h0 : n ≥ 0
    · rw [if_pos h0]
      by_cases h1 : n ≤ (p.length : Int)
      · rw [if_pos h1, if_pos (by omega), may_k _ _ (by rw [List.length_take]; omega) (by rw [List.length_take]; omega), take_may hp]
        simp only [Option.bind_some, Bool.not_true]
        exact J1
      · rw [if_neg h1]; exact J1
    · rw [if_neg h0]; exact J1
end Go.Proofs.Ytkidnomkfdnciaa.Pure
