/- A node of a memo, and its Canon, are looked up in the group that it was made of; of groups that are merged each node is looked up in the group that its group has come to; for all memos and numbers. No further condition. -/
import Derived.Test.YtkidnomkfdnciaaMemo2
import Derived.Test.YtkidnomkfdnciaaAllx45
namespace Go.Proofs.Ytkidnomkfdnciaa.Pure
open Go.RowKit Go.Proofs.Ytkidnomkfdnciaa.All Go.Proofs.YtkidnomkfdnciaaW.PrintWords
def MemoLookPure : Prop := ∀ (N0 : List S48) (G0 P0 : List Int), Lim N0 G0 P0 → ∀ a1 : Int, (Lit.int .i64 a1).wf = true → ∀ a2 : Int, (Lit.int .i64 a2).wf = true → ∀ a3 : Int, (Lit.int .i64 a3).wf = true → ∃ k, roadbooklaw16_MemoLook.f k N0 G0 P0 a1 a2 a3 = some true
theorem MemoLook : MemoLookPure := by
  intro N G P hL i _ a _ b _
  refine ⟨3000, ?_⟩
  unfold roadbooklaw16_MemoLook.f roadbooklaw16_awake.f memo_May.f
  rw [few_k]
  simp only [Option.bind_some, if_true]
  cases hf : fewB N G P 60 with
  | false => simp [roadbooklaw16_MemoLook.j0]
  | true =>
    cases hm : mayMB N G P with
    | false => simp [roadbooklaw16_MemoLook.j0]
    | true =>
      by_cases h0 : i < 0
      · simp [roadbooklaw16_MemoLook.j0, h0]
      by_cases h1 : i ≥ N.length
      · simp [roadbooklaw16_MemoLook.j0, h0, h1]
      obtain ⟨j, rfl⟩ := Int.eq_ofNat_of_zero_le (by omega : 0 ≤ i)
      have hj : j < N.length := by omega
      have hG := may_lenG hm
      have hP := may_P hm
      simp only [if_true, if_neg h0, decide_eq_false h1, roadbooklaw16_MemoLook.j0, Bool.false_eq_true, if_false, rd48, rd_getD]
      have hn := form_N (may_form hm) hj
      have hg := form_G (may_form hm) hj
      generalize hx : N.getD j z48 = x at *
      have hc := canon_node hP hn
      have hcc := canon_self hP hn
      have hl1 := look_some (n := x) hm hn hj (by rw [hx])
      have hl2 := look_some (n := canonS (rootsS P) x) hm hc hj (by rw [hx, hcc])
      rw [if_pos (by omega), if_pos (by omega), canon_f hP hn (by omega), look_f, hl1]
      simp only [Option.bind_some]
      rw [look_f N G P (canonS (rootsS P) x), hl2, canon_f hP hc (by omega), hcc]
      unfold memo_Find.f sets_Find.f
      simp only [Option.bind_some, if_true, roadbooklaw16_MemoLook.j1, beq_self_eq_true, Bool.not_true, Bool.or_self, Bool.false_eq_true, if_false]
      rw [if_pos (by omega), merge_k hL (by omega)]
      simp only [Option.bind_some]
      rcases mer_cases N G P a b with h | ⟨h, e⟩
      · rw [h]; simp
      rw [e]
      simp only [if_true]
      have hn' : nodeB (mergeP N G P a b) x = true := by rw [node_len h.len]; exact hn
      rw [if_pos (by omega), if_pos (by omega), rd48, hx, look_f, look_some (n := x) h.after hn' hj (by rw [hx])]
      unfold memo_Find.f sets_Find.f
      simp only [Option.bind_some, if_true]
      rw [if_pos (h.find hg).symm, h.spec.two]
      simp
end Go.Proofs.Ytkidnomkfdnciaa.Pure
