/- Calls in two parts come to the same as the calls in one: for all memos and lists. No further condition. -/
import Derived.Test.YtkidnomkfdnciaaCalls1
import Derived.Test.YtkidnomkfdnciaaAllx73
namespace Go.Proofs.Ytkidnomkfdnciaa.Pure
open Go.RowKit Go.Proofs.Ytkidnomkfdnciaa.All Go.Proofs.YtkidnomkfdnciaaW.PrintWords
def CallsPartsPure : Prop := ∀ (N0 : List S48) (G0 P0 : List Int), Lim N0 G0 P0 → ∀ l1 : List S76, l1.length ≤ 9223372036854775807 → ∀ l2 : List S76, l2.length ≤ 9223372036854775807 → ∃ k, roadbooklaw20_CallsParts.f k N0 G0 P0 l1 l2 = some true
theorem CallsParts : CallsPartsPure := by
  intro N G P hL l _ m _
  obtain ⟨k, hk⟩ : ∃ k : Nat, k = 3000 := ⟨_, rfl⟩
  refine ⟨k + 3, ?_⟩
  unfold roadbooklaw20_CallsParts.f roadbooklaw20_awake.f memo_May.f
  rw [far_k]
  have triv : roadbooklaw20_CallsParts.j0 (k + 3) l m true true N G P = some true := by
    rw [roadbooklaw20_CallsParts.j0, if_pos rfl]
  simp only [Option.bind_some, if_true]
  by_cases h1 : (l.length : Int) > 12
  · rw [if_pos h1]; exact triv
  · rw [if_neg h1]
    by_cases h2 : (m.length : Int) > 12
    · rw [if_pos h2]; exact triv
    · rw [if_neg h2]
      cases hf : fewB N G P 20 with
      | false => simp only [Bool.false_eq_true, if_false]; rw [if_neg (by decide)]; exact triv
      | true =>
        simp only [if_true]
        cases hm : mayMB N G P with
        | false => exact triv
        | true =>
          have hmA := all_may l hm
          have hmB := all_may m hmA
          have hlA := all_len l N G P
          have hlB := all_len m (allT N G P l).1 (allT N G P l).2.1 (allT N G P l).2.2.1
          rw [roadbooklaw20_CallsParts.j0]
          simp only [Bool.not_true, Bool.false_eq_true, if_false, List.length_nil, List.nil_append, Option.bind_some]
          rw [if_pos (by omega), if_pos (by omega), all_k hm (by simp; omega) (by omega), all_k hm (by omega) (by omega), all_app]
          simp only [Option.bind_some]
          rw [all_k hmA (by omega) (by omega)]
          simp only [Option.bind_some]
          rw [if_pos (by omega), if_pos (by omega), backs_k (by simp; omega) (by omega)]
          simp only [Option.bind_some, if_true]
          have n1 := may_lenN hmB
          have n2 := may_lenG hmB
          have n3 := may_lenP hmB
          rw [msame_k (by omega) (by omega) (by omega) (by omega) (by omega), same_refl (may_P hmB)]
          simp only [memo_May.f, Option.bind_some, if_true, hmB]
          rw [List.length_append, hlA, hlB, wrap_in (by omega) (by omega)]
          simp
end Go.Proofs.Ytkidnomkfdnciaa.Pure
