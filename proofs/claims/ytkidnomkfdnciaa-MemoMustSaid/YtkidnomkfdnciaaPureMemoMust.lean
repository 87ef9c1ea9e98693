/- Of groups that are merged no more are one than by any sets that join the two groups, keep what was one, and leave the memo closed; for all memos, numbers and sets. No further condition. -/
import Derived.Test.YtkidnomkfdnciaaMemo2
import Derived.Test.YtkidnomkfdnciaaAllx43
namespace Go.Proofs.Ytkidnomkfdnciaa.Pure
open Go.RowKit Go.Proofs.Ytkidnomkfdnciaa.All Go.Proofs.YtkidnomkfdnciaaW.PrintWords
theorem must_l1 {N : List S48} {G P Q R : List Int} (hP : mayB P = true) (hQ : mayB Q = true) (hR : mayB R = true) (hl : Q.length = P.length) (h : LeP Q R) (d : Nat) : ∀ k i : Nat, i + d = P.length → d < k →
    roadbooklaw16_MemoMust.l1 k R (i : Int) N G P N G Q = some true := by
  have := mayB_len hP
  induction d with
  | zero =>
    intro k i hi hk
    obtain ⟨k, rfl⟩ : ∃ m, k = m + 1 := ⟨k - 1, by omega⟩
    simp only [roadbooklaw16_MemoMust.l1]
    rw [if_neg (by omega)]
  | succ d ih =>
    intro k i hi hk
    obtain ⟨k, rfl⟩ : ∃ m, k = m + 1 := ⟨k - 1, by omega⟩
    simp only [roadbooklaw16_MemoMust.l1]
    rw [if_pos (by omega), wrap_in (by omega) (by omega)]
    unfold memo_Find.f sets_Find.f
    simp only [Option.bind_some]
    rw [h.find hQ hR (inB_iff.2 ⟨by omega, by omega⟩), if_pos rfl]
    exact ih k (i + 1) (by omega) (by omega)
theorem must_l0 {N : List S48} {G P Q R : List Int} {a b : Int} (hP : mayB P = true) (hQ : mayB Q = true) (hR : mayB R = true) (hl : Q.length = P.length) (hlR : R.length = P.length) (h : LeP P R → mayMB N G R = true → findS R a = findS R b → LeP Q R) (d : Nat) : ∀ k i : Nat, i + d = P.length → d + 500 < k →
    (∀ j : Nat, j < i → findS R (findS P (j : Int)) = findS R (j : Int)) → roadbooklaw16_MemoMust.l0 k a b R (i : Int) N G P N G Q N G R = some true := by
  have := mayB_len hP
  induction d with
  | zero =>
    intro k i hi hk hj
    obtain ⟨k, rfl⟩ : ∃ m, k = m + 2 := ⟨k - 2, by omega⟩
    simp only [roadbooklaw16_MemoMust.l0]
    rw [if_neg (by omega)]
    unfold memo_May.f sets_Find.f
    simp only [Option.bind_some]
    cases hm : mayMB N G R with
    | false => simp [roadbooklaw16_MemoMust.j2]
    | true =>
      simp only [if_true, roadbooklaw16_MemoMust.j2]
      by_cases e : findS R a = findS R b
      · rw [e]
        simp only [bne_self_eq_false, Bool.false_eq_true, if_false]
        exact must_l1 hP hQ hR hl (h (LeP.of_find hP hR hlR (fun j hj' => hj j (by omega))) hm e) P.length k 0 (by omega) (by omega)
      · rw [if_pos (by simpa using e)]
  | succ d ih =>
    intro k i hi hk hj
    obtain ⟨k, rfl⟩ : ∃ m, k = m + 1 := ⟨k - 1, by omega⟩
    simp only [roadbooklaw16_MemoMust.l0]
    rw [if_pos (by omega), wrap_in (by omega) (by omega)]
    unfold sets_Find.f
    simp only [Option.bind_some]
    by_cases e : findS R (i : Int) = findS R (findS P (i : Int))
    · rw [if_pos e]
      refine ih k (i + 1) (by omega) (by omega) (fun j hj' => ?_)
      rcases Nat.lt_or_ge j i with h1 | h1
      · exact hj j h1
      · obtain rfl : j = i := by omega
        exact e.symm
    · rw [if_neg e]
def MemoMustPure : Prop := ∀ (N0 : List S48) (G0 P0 : List Int), Lim N0 G0 P0 → ∀ a1 : Int, (Lit.int .i64 a1).wf = true → ∀ a2 : Int, (Lit.int .i64 a2).wf = true → ∀ l3 : List Int, l3.length * 8 ≤ 140737488351232 → ∃ k, roadbooklaw16_MemoMust.f k N0 G0 P0 a1 a2 l3 = some true
theorem MemoMust : MemoMustPure := by
  intro N G P hL a _ b _ R hR8
  refine ⟨R.length + 3000, ?_⟩
  unfold roadbooklaw16_MemoMust.f roadbooklaw16_awake.f
  rw [few_k, merge_k hL (by omega), may_k R _ (by omega) (by omega)]
  obtain ⟨k, hk⟩ : ∃ k, R.length + 3000 = k + 1 := ⟨R.length + 2999, rfl⟩
  rw [hk]
  simp only [Option.bind_some, if_true]
  cases hf : fewB N G P 60 with
  | false => simp [roadbooklaw16_MemoMust.j0]
  | true =>
    rcases mer_cases N G P a b with h | ⟨h, e⟩
    · rw [h]; simp [roadbooklaw16_MemoMust.j0]
    rw [e]
    simp only [if_true]
    by_cases hlR : (R.length : Int) = P.length
    · rw [if_pos hlR]
      cases hm : mayB R with
      | false => simp [roadbooklaw16_MemoMust.j0]
      | true =>
        simp only [roadbooklaw16_MemoMust.j0, Bool.not_true, Bool.false_eq_true, if_false]
        have := may_lenP h.may
        refine must_l0 (may_P h.may) h.spec.may hm h.len (by omega) (fun h1 h2 h3 => h.spec.least R hm h1 h3 (may_closed h2)) P.length k 0 (by omega) (by omega) (fun j hj => by omega)
    · rw [if_neg hlR]; simp [roadbooklaw16_MemoMust.j0]
end Go.Proofs.Ytkidnomkfdnciaa.Pure
