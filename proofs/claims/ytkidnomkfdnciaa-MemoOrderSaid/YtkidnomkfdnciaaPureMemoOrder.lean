/- In whichever order, and whichever way round, two pairs of groups of a memo are merged the memos that come out are the same, and a memo that may be stays so; for all memos and numbers. No further condition. -/
import Derived.Test.YtkidnomkfdnciaaMemo2
import Derived.Test.YtkidnomkfdnciaaAllx46
namespace Go.Proofs.Ytkidnomkfdnciaa.Pure
open Go.RowKit Go.Proofs.Ytkidnomkfdnciaa.All Go.Proofs.YtkidnomkfdnciaaW.PrintWords
def MemoOrderPure : Prop := ∀ (N0 : List S48) (G0 P0 : List Int), Lim N0 G0 P0 → ∀ a1 : Int, (Lit.int .i64 a1).wf = true → ∀ a2 : Int, (Lit.int .i64 a2).wf = true → ∀ a3 : Int, (Lit.int .i64 a3).wf = true → ∀ a4 : Int, (Lit.int .i64 a4).wf = true → ∃ k, roadbooklaw16_MemoOrder.f k N0 G0 P0 a1 a2 a3 a4 = some true
theorem MemoOrder : MemoOrderPure := by
  intro N G P hL a _ b _ c _ d _
  refine ⟨3000, ?_⟩
  unfold roadbooklaw16_MemoOrder.f roadbooklaw16_awake.f
  rw [few_k, merge_k hL (by omega), merge_k hL (by omega)]
  simp only [Option.bind_some, if_true]
  cases hf : fewB N G P 60 with
  | false => simp [roadbooklaw16_MemoOrder.j0]
  | true =>
    rcases mer_cases N G P a b with h | ⟨h, e⟩
    · rw [h]; simp [roadbooklaw16_MemoOrder.j0]
    rcases mer_cases N G P c d with h' | ⟨h', e'⟩
    · rw [h']; simp [roadbooklaw16_MemoOrder.j0]
    rw [e, e']
    simp only [if_true, roadbooklaw16_MemoOrder.j0, bne_self_eq_false, Bool.false_eq_true, if_false]
    have k := h.again h'
    have k' := h'.again h.swap
    rw [merge_k (may_Lim h.after) (by omega), merge_k (may_Lim h'.after) (by omega), k.eq, k'.eq]
    simp only [Option.bind_some, if_true]
    have hl := may_lenP h.may
    have hN := may_lenN h.may
    have hG := may_lenG h.may
    have e1 := k.len
    have e2 := k'.len
    have e3 := h.len
    have e4 := h'.len
    rw [msame_k (by omega) (by omega) (by omega) (by omega) (by omega)]
    unfold sameM memo_May.f
    rw [merge_order h h', k.after, h.after]
    simp
end Go.Proofs.Ytkidnomkfdnciaa.Pure
