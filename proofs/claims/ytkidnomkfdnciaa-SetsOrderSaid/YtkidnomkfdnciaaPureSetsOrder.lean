/- In whichever order, and whichever way round, two pairs of sets are joined they come out the same, and joining a pair again changes nothing; for all lists and numbers. No further condition. -/
import Derived.Test.YtkidnomkfdnciaaSets2
import Derived.Test.YtkidnomkfdnciaaAllx38
namespace Go.Proofs.Ytkidnomkfdnciaa.Pure
open Go.RowKit Go.Proofs.Ytkidnomkfdnciaa.All Go.Proofs.YtkidnomkfdnciaaW.PrintWords
theorem SetsOrder : roadbooklaw15_SetsOrder.Pure := by
  intro p a b c d hm hs hw wa wb wc wd
  refine ⟨2000, ?_⟩
  unfold roadbooklaw15_SetsOrder.f roadbooklaw15_awake.f
  rw [join_k p a b _ (by omega), join_k p c d _ (by omega)]
  simp only [Option.bind_some, if_true]
  rcases join_cases p a b with ⟨h1, _⟩ | ⟨h, _⟩
  · rw [h1]; simp [roadbooklaw15_SetsOrder.j0]
  rw [joined_eq h]
  simp only [if_true]
  rcases join_cases p c d with ⟨h1, _⟩ | ⟨k, _⟩
  · rw [h1]; simp [roadbooklaw15_SetsOrder.j0]
  rw [joined_eq k]
  have k2 := (h.same k).2
  have h2 := (k.same h.swap).2
  have h3 := ((h.same h).2.of_len (joined_may k2) (joined_length k2))
  have hl := mayB_len h.may
  have e1 := joined_length h
  have e2 := joined_length k
  have e3 := joined_length k2
  simp only [roadbooklaw15_SetsOrder.j0, Bool.not_true, Bool.false_eq_true, if_false]
  rw [join_k _ c d _ (by omega), join_k _ b a _ (by omega), joined_eq k2, joined_eq h2]
  simp only [Option.bind_some]
  rw [join_k _ a b _ (by omega), joined_eq h3]
  simp only [Option.bind_some, if_true]
  rw [ints_k _ _ _ (by omega) (by omega), ints_k _ _ _ (by omega) (by omega), decide_eq_true (join_order h k)]
  simp only [Option.bind_some, if_true]
  rw [decide_eq_true (join_again h k).symm]
end Go.Proofs.Ytkidnomkfdnciaa.Pure
