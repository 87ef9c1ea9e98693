/- The least one of a number is none greater than it, of its set, and its own least one, and the list of all least ones tells it, may be, is the same sets, and is its own list of least ones; for all lists and numbers. No further condition. -/
import Derived.Test.YtkidnomkfdnciaaSets2
import Derived.Test.YtkidnomkfdnciaaAllx41
namespace Go.Proofs.Ytkidnomkfdnciaa.Pure
open Go.RowKit Go.Proofs.Ytkidnomkfdnciaa.All Go.Proofs.YtkidnomkfdnciaaW.PrintWords
theorem SetsLeast : roadbooklaw15_SetsLeast.Pure := by
  intro p a hm hs hw wa
  obtain ⟨K, hK⟩ : ∃ K, K = p.length + 2000 := ⟨_, rfl⟩
  refine ⟨K + 1 + 1, ?_⟩
  have J : ∀ x, roadbooklaw15_SetsLeast.j0 (K + 1 + 1) p a true true = x → x = some true := by intro x h; rw [← h]; simp [roadbooklaw15_SetsLeast.j0]
  unfold roadbooklaw15_SetsLeast.f roadbooklaw15_awake.f
  rw [may_k p _ (by omega) (by omega)]
  simp only [Option.bind_some, if_true]
  by_cases hp : mayB p = true
  · rw [if_pos hp]
    by_cases h0 : a < 0
    · rw [if_pos h0]; exact J _ rfl
    rw [if_neg h0]
    by_cases h1 : a ≥ (p.length : Int)
    · rw [decide_eq_true h1]; exact J _ rfl
    rw [decide_eq_false h1]
    have hn : a.toNat < p.length := by omega
    have hlen := mayB_len hp
    have hrl := rootsS_length p hp
    have hle := rootN_le hp hn
    have hrm := rootsS_may hp
    have hat := rootsS_at hp hn
    have hfix := rootN_fix hp _ hn
    have hid := rootN_idem hp hn
    have e1 : rd (rootsS p) a = ((rootN p a.toNat : Nat) : Int) := by
      rw [← hat]; unfold rd; rfl
    have e2 : rd p ((rootN p a.toNat : Nat) : Int) = ((rootN p a.toNat : Nat) : Int) := by rw [rd_getD, hfix]
    have e3 : findS p ((rootN p a.toNat : Nat) : Int) = ((rootN p a.toNat : Nat) : Int) := by
      rw [findS_in hp (by omega) (by omega), Int.toNat_natCast, hid]
    simp only [roadbooklaw15_SetsLeast.j0, Bool.false_eq_true, if_false, sets_Find.f, sets_Roots.f, Option.bind_some]
    rw [findS_in hp (by omega) (by omega), if_neg (by omega), if_neg (by omega), e3, if_pos rfl, if_pos (by omega), if_pos (by omega), if_pos (by omega), e1, if_pos rfl, if_pos (by omega), if_pos (by omega), e2, bne_self_eq_false]
    simp only [roadbooklaw15_SetsLeast.j1, Bool.false_eq_true, if_false]
    rw [may_k _ K (by omega) (by omega), hrm]
    simp only [Option.bind_some, if_true]
    rw [same_k p _ K (by omega) (by omega) (by omega) (by omega)]
    have hsame : sameB p (rootsS p) = true := by
      unfold sameB
      rw [hp, hrm, roots_roots hp]
      simp
    simp only [Option.bind_some, hsame, if_true, sets_Roots.f]
    rw [roots_roots hp, ints_k _ _ K (by omega) (by omega)]
    simp
  · rw [if_neg hp]; exact J _ rfl
end Go.Proofs.Ytkidnomkfdnciaa.Pure
