/- Sets are the same either way round, and as themselves just if they may be; of two that are the same, joined alike, both or neither are joined, they are the same still, and each number has the same least one; for all lists and numbers. No further condition. -/
import Derived.Test.YtkidnomkfdnciaaSets2
import Derived.Test.YtkidnomkfdnciaaAllx42
namespace Go.Proofs.Ytkidnomkfdnciaa.Pure
open Go.RowKit Go.Proofs.Ytkidnomkfdnciaa.All Go.Proofs.YtkidnomkfdnciaaW.PrintWords
theorem SetsSame : roadbooklaw15_SetsSame.Pure := by
  intro p q a b hm hs hw hm' hs' hw' wa wb
  obtain ⟨K, hK⟩ : ∃ K, K = p.length + q.length + 2000 := ⟨_, rfl⟩
  refine ⟨K + 1, ?_⟩
  unfold roadbooklaw15_SetsSame.f roadbooklaw15_awake.f
  rw [same_k p q _ (by omega) (by omega) (by omega) (by omega), same_k q p _ (by omega) (by omega) (by omega) (by omega), same_k p p _ (by omega) (by omega) (by omega) (by omega), may_k p _ (by omega) (by omega)]
  simp only [Option.bind_some, if_true]
  rw [same_comm q p, bne_self_eq_false, same_self, bne_self_eq_false]
  simp only [Bool.false_eq_true, if_false]
  simp only [roadbooklaw15_SetsSame.j0, Bool.false_eq_true, if_false]
  rw [join_k p a b _ (by omega), join_k q a b _ (by omega)]
  simp only [Option.bind_some]
  rw [same_k p q K (by omega) (by omega) (by omega) (by omega)]
  simp only [Option.bind_some]
  by_cases h : sameB p q = true
  · obtain ⟨h1, h2⟩ := same_join h a b
    have hlp := mayB_len (same_may h2).1
    have hlq := mayB_len (same_may h2).2
    rw [if_pos h, if_pos (by rw [h1, beq_self_eq_true]), same_k _ _ K (by omega) (by omega) (by omega) (by omega), h2]
    simp only [Option.bind_some, if_true, sets_Find.f]
    rw [same_find h a, beq_self_eq_true]
  · rw [if_neg h]
end Go.Proofs.Ytkidnomkfdnciaa.Pure
