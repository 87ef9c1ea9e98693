/- Groups that are merged with themselves, or with what they are one with, change nothing, and a new node in a new group is alone there; for all memos, nodes and numbers. No further condition. -/
import Derived.Test.YtkidnomkfdnciaaMemo3
import Derived.Test.YtkidnomkfdnciaaAllx49
namespace Go.Proofs.Ytkidnomkfdnciaa.Pure
open Go.RowKit Go.Proofs.Ytkidnomkfdnciaa.All Go.Proofs.YtkidnomkfdnciaaW.PrintWords
theorem merge_self {N : List S48} {G P : List Int} {a b : Int} (h : Mer N G P a b) (e : findS P a = findS P b) : sameM N G (mergeP N G P a b) N G P = true := by
  have hP := may_P h.may
  unfold sameM
  rw [decide_eq_true rfl, decide_eq_true rfl, flat_same h.spec.may hP (h.spec.least P hP (LeP.refl hP) e (may_closed h.may)) h.spec.le]
  rfl
theorem of_none {N : List S48} {G P : List Int} {g : Int} : ∀ k, (∀ r, r < k → ofB N G P g r = false) → ofL N G P g k = []
  | 0, _ => rfl
  | k + 1, h => by rw [ofL_succ, h k (by omega), if_neg (by decide)]; exact of_none k (fun r hr => h r (by omega))
theorem of_own {N : List S48} {G P : List Int} {n : S48} (hm : mayMB N G P = true) (hn : nodeB P n = true) (hno : ∀ i, i < N.length → canonS (rootsS P) (N.getD i z48) ≠ canonS (rootsS P) n) (hl : N.length < 400) (hp : P.length < 400) :
    ofS (N ++ [n]) (G ++ [(P.length : Int)]) (P ++ [(P.length : Int)]) (P.length : Int) = [(N.length : Int)] := by
  have w := snoc_wider (may_P hm) hp
  have hP := may_P hm
  have hG := may_lenG hm
  have hm' : mayMB (N ++ [n]) (G ++ [(P.length : Int)]) (P ++ [(P.length : Int)]) = true := new_may hm w hn (inB_iff.2 ⟨by omega, by simp; omega⟩) hl hno
  have hlast := snoc_last hP hp
  have h0 : ∀ r, r < N.length → ofB (N ++ [n]) (G ++ [(P.length : Int)]) (P ++ [(P.length : Int)]) (P.length : Int) r = false := by
    intro r hr
    unfold ofB
    rw [Bool.and_eq_false_iff]
    left
    have h1 := find_bd hP (form_G (may_form hm) hr)
    have h2 := inB_iff.1 h1.1
    rw [getD_snoc, if_pos (by omega), hlast, w.find _ (form_G (may_form hm) hr)]
    exact decide_eq_false (by omega)
  have h1 : ofB (N ++ [n]) (G ++ [(P.length : Int)]) (P ++ [(P.length : Int)]) (P.length : Int) N.length = true := by
    unfold ofB
    rw [getD_snoc, if_neg (by omega), if_pos hG.symm, decide_eq_true rfl, Bool.true_and, decide_eq_true_eq]
    have hN : N.length < (N ++ [n]).length := by simp
    refine posN_of _ _ hN rfl fun j hj => ?_
    rw [canons_at _ _ hN, canons_at _ _ (by simp; omega), getD_snoc, if_pos hj, getD_snoc, if_neg (by omega), if_pos rfl, w.canon hP (form_N (may_form hm) hj), w.canon hP hn]
    exact hno j hj
  unfold ofS
  rw [hm', if_pos rfl, hlast, if_neg (by omega), List.length_append, List.length_singleton, ofL_succ, of_none N.length h0, h1, if_pos rfl]
  rfl
def MemoOnePure : Prop := ∀ (N0 : List S48) (G0 P0 : List Int), Lim N0 G0 P0 → ∀ n1 : S48, ∀ a2 : Int, (Lit.int .i64 a2).wf = true → ∀ a3 : Int, (Lit.int .i64 a3).wf = true → ∃ k, roadbooklaw16_MemoOne.f k N0 G0 P0 n1.f0 n1.f1 n1.f2 n1.f3 a2 a3 = some true
theorem MemoOne : MemoOnePure := by
  intro N G P hL n a _ b _
  obtain ⟨k, hk⟩ : ∃ k : Nat, k = 3000 := ⟨_, rfl⟩
  refine ⟨k + 3, ?_⟩
  unfold roadbooklaw16_MemoOne.f roadbooklaw16_awake.f memo_May.f
  rw [few_k]
  simp only [Option.bind_some, if_true, roadbooklaw16_MemoOne.j0]
  cases hf : fewB N G P 60 with
  | false => simp
  | true =>
    cases hm : mayMB N G P with
    | false => simp
    | true =>
      simp only [Bool.not_true, Bool.false_eq_true, if_false, if_true]
      have h1 := may_lenN hm
      have h2 := may_lenG hm
      have h3 := may_lenP hm
      have fin : roadbooklaw16_MemoOne.j1 (k + 2) false N G P n.f0 n.f1 n.f2 n.f3 = some true := by
        simp only [roadbooklaw16_MemoOne.j1, Bool.false_eq_true, if_false]
        rw [look_f, put_k hL n (-1) (by omega)]
        have c := put_cases N G P n (-1)
        generalize putT N G P n (-1) = r at *
        simp only [Option.bind_some]
        cases c with
        | bad _ => simp [roadbooklaw16_MemoOne.j2]
        | full _ _ => simp [roadbooklaw16_MemoOne.j2]
        | merge _ _ _ _ hg _ => exact absurd rfl hg
        | new _ _ _ _ hg _ => exact absurd rfl hg
        | has _ hn i hi hc _ =>
          rw [look_some hm hn hi hc]
          simp only [if_true, roadbooklaw16_MemoOne.j2]
          rw [msame_k (by omega) (by omega) (by omega) (by omega) (by omega), same_refl (may_P hm)]
          rfl
        | own _ hn hno hl hp _ =>
          rw [look_none hm hn hno]
          simp only [if_true, roadbooklaw16_MemoOne.j2, Bool.false_eq_true, if_false]
          unfold memo_Of.f
          rw [of_own hm hn hno hl hp]
          simp only [Option.bind_some, List.length_singleton]
          rw [if_pos (by decide), if_pos (by decide), if_pos (by rfl), wrap_in (by omega) (by omega)]
          simp
      rw [merge_k hL (by omega)]
      unfold memo_Find.f sets_Find.f
      simp only [Option.bind_some]
      rcases mer_cases N G P a b with h | ⟨h, e⟩
      · rw [h]; simp only [show ¬ ((1 : Int) = 0) by decide, if_false]; exact fin
      · rw [e]
        simp only [if_true]
        by_cases he : findS P a = findS P b
        · have e1 := h.len
          rw [if_pos he, msame_k (by omega) (by omega) (by omega) (by omega) (by omega), merge_self h he]
          exact fin
        · rw [if_neg he]; exact fin
end Go.Proofs.Ytkidnomkfdnciaa.Pure
