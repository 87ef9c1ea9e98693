/- Two numbers whose sets are joined have one least one, and any two others have the same one just if they had, or each was of one of the two sets; where nothing is joined the list may not be or a number is none of it. For all lists and numbers. No further condition. -/
import Derived.Test.YtkidnomkfdnciaaSets2
import Derived.Test.YtkidnomkfdnciaaAllx37
namespace Go.Proofs.Ytkidnomkfdnciaa.Pure
open Go.RowKit Go.Proofs.Ytkidnomkfdnciaa.All Go.Proofs.YtkidnomkfdnciaaW.PrintWords
theorem SetsJoin : roadbooklaw15_SetsJoin.Pure := by
  intro p a b i k hm hs hw wa wb wi wk
  obtain ⟨K, hK⟩ : ∃ K, K = p.length + 2000 := ⟨_, rfl⟩
  refine ⟨K + 1 + 1, ?_⟩
  unfold roadbooklaw15_SetsJoin.f roadbooklaw15_awake.f
  rw [join_k p a b _ (by omega)]
  simp only [Option.bind_some, if_true]
  rcases join_cases p a b with ⟨h1, h2⟩ | ⟨h, _⟩
  · rw [h1]
    simp only [roadbooklaw15_SetsJoin.j0, Bool.not_false, if_true, sets_Find.f]
    rw [may_k p _ (by omega) (by omega)]
    simp only [Option.bind_some]
    by_cases hp : mayB p = true
    · rw [if_pos hp]
      by_cases ha : findS p a = -1
      · rw [if_pos ha]
      · rw [if_neg ha]
        have hb : findS p b = -1 := by
          rcases h2 with h2 | h2 | h2
          · rw [hp] at h2; cases h2
          · exact absurd h2 ha
          · exact h2
        rw [hb]
        rfl
    · rw [if_neg hp]
  · rw [joined_eq h]
    have hl := mayB_len h.may
    have e1 := joined_length h
    have hq := joined_may h
    have hqm : ∀ n, 1000 < n → sets_May.f n (joinP p a b) = some true := fun n hn => by rw [may_k _ n (by omega) (by omega), hq]
    have fa := findS_in h.may h.a0 h.al
    have fb := findS_in h.may h.b0 h.bl
    have ga : findS (joinP p a b) a = ((J (rootN p a.toNat) (rootN p b.toNat) (rootN p a.toNat) : Nat) : Int) := by rw [findS_in hq h.a0 (by rw [e1]; exact h.al), joined_root h h.na]
    have gb : findS (joinP p a b) b = ((J (rootN p a.toNat) (rootN p b.toNat) (rootN p b.toNat) : Nat) : Int) := by rw [findS_in hq h.b0 (by rw [e1]; exact h.bl), joined_root h h.nb]
    have hJab : J (rootN p a.toNat) (rootN p b.toNat) (rootN p a.toNat) = J (rootN p a.toNat) (rootN p b.toNat) (rootN p b.toNat) := (J_one _ _ _ _).2 (.inr ⟨.inl rfl, .inr rfl⟩)
    have J1 : ∀ x, roadbooklaw15_SetsJoin.j1 (K + 1) p a b i k (joinP p a b) true = x → x = some true := by
      intro x hx
      rw [← hx]
      simp only [roadbooklaw15_SetsJoin.j1, if_true, sets_Find.f]
      rw [hqm _ (by omega)]
      simp only [Option.bind_some, if_true]
      rw [ga, gb, hJab, beq_self_eq_true]
    simp only [roadbooklaw15_SetsJoin.j0, Bool.not_true, Bool.false_eq_true, if_false, sets_Find.f, Option.bind_some]
    rcases findS_cases p i with ⟨fi, _⟩ | ⟨_, i0, il, fi⟩
    · rw [fi, if_pos (by omega)]; exact J1 _ rfl
    rw [fi, if_neg (by omega)]
    rcases findS_cases p k with ⟨fk, _⟩ | ⟨_, k0, kl, fk⟩
    · rw [fk, decide_eq_true (by omega)]; exact J1 _ rfl
    rw [fk, decide_eq_false (by omega)]
    have gi : findS (joinP p a b) i = ((J (rootN p a.toNat) (rootN p b.toNat) (rootN p i.toNat) : Nat) : Int) := by rw [findS_in hq i0 (by rw [e1]; exact il), joined_root h (by omega)]
    have gk : findS (joinP p a b) k = ((J (rootN p a.toNat) (rootN p b.toNat) (rootN p k.toNat) : Nat) : Int) := by rw [findS_in hq k0 (by rw [e1]; exact kl), joined_root h (by omega)]
    have hone := J_one (rootN p a.toNat) (rootN p b.toNat) (rootN p i.toNat) (rootN p k.toNat)
    simp only [roadbooklaw15_SetsJoin.j1, Bool.false_eq_true, if_false, sets_Find.f, Option.bind_some]
    rw [hqm _ (by omega)]
    simp only [Option.bind_some, if_true, fa, fb, fi, fk, gi, gk]
    generalize J (rootN p a.toNat) (rootN p b.toNat) (rootN p i.toNat) = u at *
    generalize J (rootN p a.toNat) (rootN p b.toNat) (rootN p k.toNat) = v at *
    generalize rootN p a.toNat = ra at *
    generalize rootN p b.toNat = rb at *
    generalize rootN p i.toNat = ri at *
    generalize rootN p k.toNat = rk at *
    clear ga gb hJab J1 fa fb fi fk gi gk hqm
    repeat' split
    all_goals congr 1
    all_goals first
      | (rw [beq_iff_eq, Bool.eq_iff_iff, beq_iff_eq, beq_iff_eq]; omega)
      | (rw [beq_iff_eq, beq_iff_eq]; omega)
      | (rw [beq_iff_eq, beq_eq_false_iff_ne]; omega)
end Go.Proofs.Ytkidnomkfdnciaa.Pure
