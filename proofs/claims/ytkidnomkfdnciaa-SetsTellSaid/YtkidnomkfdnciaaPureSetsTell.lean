/- What the program's package sets tells of any lists and numbers is what the document's plain functions tell: May, Find, Roots, New, Same and Join; for all lists and numbers. No further condition. -/
import Derived.Test.YtkidnomkfdnciaaRef15
import Derived.Test.YtkidnomkfdnciaaTell
namespace Go.Proofs.Ytkidnomkfdnciaa.Pure
open Go.RowKit Go.Proofs.Ytkidnomkfdnciaa.All Go.Proofs.YtkidnomkfdnciaaW.PrintWords
theorem tell_k (p : List Int) (a b : Int) (k : Nat) (hp : p.length ≤ 4611686018427387904) (hk : 2 * p.length + 2 < k) : tellJoin.f k p a b = some (joinS p a b) := by
  unfold tellJoin.f joinS
  rw [find15_k p a k (by omega) (by omega), find15_k p b k (by omega) (by omega), Option.bind_some, Option.bind_some]
  have hpos : ∀ c, ¬ findS p c < 0 ↔ findS p c ≠ -1 := by
    intro c
    rcases findS_cases p c with ⟨h, _⟩ | ⟨_, _, _, h⟩ <;> rw [h] <;> omega
  by_cases h1 : findS p a = -1
  · rw [if_pos h1, if_pos (by omega)]
  · rw [if_neg h1, if_neg ((hpos a).2 h1)]
    by_cases h2 : findS p b = -1
    · rw [if_pos h2, if_pos (by omega)]
    · rw [if_neg h2, if_neg ((hpos b).2 h2), roots15_k p k (by omega) (by omega), Option.bind_some]
      have hm := (findS_nonneg h1).2
      rw [if_pos (by rw [rootsS_length p hm]; exact mayB_len hm)]
      congr 2
      apply List.map_congr_left
      intro r _
      unfold tellM
      by_cases c1 : r = max (findS p a) (findS p b)
      · rw [if_pos c1, if_pos (by omega)]; split <;> omega
      · rw [if_neg c1]
        by_cases c2 : r = findS p a ∨ r = findS p b
        · rw [if_pos c2]; split <;> omega
        · rw [if_neg c2]
theorem joinS_len (p : List Int) (a b : Int) : (joinS p a b).1.length = p.length ∨ (joinS p a b).1.length ≤ 400 := by
  rcases join_cases p a b with ⟨h1, _⟩ | ⟨h1, _⟩
  · rw [h1]; exact .inl rfl
  · rw [joined_eq h1]; exact .inl (joined_length h1)
theorem SetsTell : roadbooklaw15_SetsTell.Pure := by
  intro p q a b hm hs hw hm' hs' hw' wa wb
  obtain ⟨K, hK⟩ : ∃ K, K = 2 * p.length + 2 * q.length + 2000 := ⟨_, rfl⟩
  refine ⟨K + 2, ?_⟩
  unfold roadbooklaw15_SetsTell.f roadbooklaw15_awake.f
  rw [Option.bind_some, if_pos rfl]
  have hj : roadbooklaw15_SetsTell.j0 (K + 2) p q a b true false = some true := by
    simp only [roadbooklaw15_SetsTell.j0, Bool.false_eq_true, if_false]
    have hl := rootsS_len p
    have hjl := joinS_len p a b
    have hnl := newS_len a
    rw [join_k p a b _ (by omega), Option.bind_some, tell_k p a b _ (by omega) (by omega), Option.bind_some, ints_k _ _ _ (by omega) (by omega), Option.bind_some, decide_eq_true rfl, if_pos rfl, beq_self_eq_true, if_pos rfl, may_k p _ (by omega) (by omega), Option.bind_some, may15_k p _ (by omega) (by omega), Option.bind_some, beq_self_eq_true, if_pos rfl]
    unfold sets_Find.f
    rw [Option.bind_some, find15_k p a _ (by omega) (by omega), Option.bind_some, beq_self_eq_true]
    simp only [roadbooklaw15_SetsTell.j1, if_true]
    unfold sets_Roots.f
    rw [Option.bind_some, roots15_k p _ (by omega) (by omega), Option.bind_some, ints_k _ _ _ (by omega) (by omega), Option.bind_some, decide_eq_true rfl, if_pos rfl, new_k a _ (by omega), Option.bind_some, new15_k a _ (by omega), Option.bind_some, ints_k _ _ _ (by omega) (by omega), Option.bind_some, decide_eq_true rfl, if_pos rfl, same_k p q _ (by omega) (by omega) (by omega) (by omega), Option.bind_some, same15_k p q _ (by omega) (by omega) (by omega) (by omega), Option.bind_some, beq_self_eq_true]
  by_cases h1 : (p.length : Int) > 1000
  · rw [if_pos h1]; simp [roadbooklaw15_SetsTell.j0]
  · rw [if_neg h1]
    by_cases h2 : (q.length : Int) > 1000
    · rw [decide_eq_true h2]; simp [roadbooklaw15_SetsTell.j0]
    · rw [decide_eq_false h2]; exact hj
end Go.Proofs.Ytkidnomkfdnciaa.Pure
