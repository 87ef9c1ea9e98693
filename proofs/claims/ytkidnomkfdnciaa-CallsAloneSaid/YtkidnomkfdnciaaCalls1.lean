/- What calls.Do and calls.All compute, in plain words. -/
import Derived.Test.YtkidnomkfdnciaaMemo3
import Derived.Test.YtkidnomkfdnciaaAllx27
import Derived.Test.YtkidnomkfdnciaaAllx40
import Derived.Test.YtkidnomkfdnciaaAllx50
namespace Go.Proofs.Ytkidnomkfdnciaa.Pure
open Go.RowKit Go.Proofs.Ytkidnomkfdnciaa.All Go.Proofs.YtkidnomkfdnciaaW.PrintWords
def thereT (x : Int) : Int × Int := if x = -1 then (-1, 2) else (x, 0)
theorem there_k (x : Int) : calls_there.f x = some (thereT x) := by
  unfold calls_there.f thereT
  split <;> rfl
def doT (N : List S48) (G P : List Int) (c : S76) : List S48 × List Int × List Int × Int × Int :=
  if c.f0 = 0 then putT N G P c.f1 c.f2
  else if c.f0 = 1 then (N, G, (mergeT N G P c.f2 c.f3).1, (mergeT N G P c.f2 c.f3).2.1, (mergeT N G P c.f2 c.f3).2.2)
  else if c.f0 = 2 then (N, G, P, (thereT (findS P c.f2)).1, (thereT (findS P c.f2)).2)
  else if c.f0 = 3 then (N, G, P, (thereT (lookS N G P c.f1).1).1, (thereT (lookS N G P c.f1).1).2)
  else (N, G, P, -1, 1)
theorem cown_k {N : List S48} {G P : List Int} (k : Nat) (h : lim3 N G P = true) : calls_own.f k N G P = some (N, G, P) := by
  unfold lim3 at h
  simp only [Bool.and_eq_true] at h
  unfold calls_own.f api_Node_94.f slices_Clone_int_int.f
  rw [if_pos h.1, if_pos h.2.1, if_pos h.2.2]
  rfl
theorem do_k {N : List S48} {G P : List Int} (hL : Lim N G P) (c : S76) {k : Nat} (hk : 500 ≤ k) :
    calls_Do.f k N G P c.f0 c.f1.f0 c.f1.f1 c.f1.f2 c.f1.f3 c.f2 c.f3 = some (doT N G P c) := by
  unfold calls_Do.f doT
  rw [put_k hL c.f1 c.f2 hk, merge_k hL (by omega), cown_k k hL.lim3, look_f]
  unfold memo_Find.f sets_Find.f
  simp only [Option.bind_some, there_k]
  split
  · rfl
  · split
    · rfl
    · split
      · rfl
      · split <;> rfl
theorem do_may {N : List S48} {G P : List Int} (hm : mayMB N G P = true) (c : S76) : mayMB (doT N G P c).1 (doT N G P c).2.1 (doT N G P c).2.2.1 = true := by
  unfold doT
  by_cases h0 : c.f0 = 0
  · simp only [if_pos h0]
    have h := put_cases N G P c.f1 c.f2
    generalize putT N G P c.f1 c.f2 = r at h ⊢
    obtain ⟨N', G', P', h', e'⟩ := r
    exact h.after hm
  · simp only [if_neg h0]
    by_cases h1 : c.f0 = 1
    · simp only [if_pos h1]
      rcases mer_cases N G P c.f2 c.f3 with h | ⟨h, e⟩
      · rw [h]; exact hm
      · rw [e]; exact h.after
    · simp only [if_neg h1]
      split
      · exact hm
      · split <;> exact hm
def allT : List S48 → List Int → List Int → List S76 → List S48 × List Int × List Int × List S73
  | N, G, P, [] => (N, G, P, [])
  | N, G, P, c :: t => ((allT (doT N G P c).1 (doT N G P c).2.1 (doT N G P c).2.2.1 t).1, (allT (doT N G P c).1 (doT N G P c).2.1 (doT N G P c).2.2.1 t).2.1, (allT (doT N G P c).1 (doT N G P c).2.1 (doT N G P c).2.2.1 t).2.2.1, ⟨(doT N G P c).2.2.2.1, (doT N G P c).2.2.2.2⟩ :: (allT (doT N G P c).1 (doT N G P c).2.1 (doT N G P c).2.2.1 t).2.2.2)
theorem all_app : ∀ (l m : List S76) (N : List S48) (G P : List Int), allT N G P (l ++ m) = ((allT (allT N G P l).1 (allT N G P l).2.1 (allT N G P l).2.2.1 m).1, (allT (allT N G P l).1 (allT N G P l).2.1 (allT N G P l).2.2.1 m).2.1, (allT (allT N G P l).1 (allT N G P l).2.1 (allT N G P l).2.2.1 m).2.2.1, (allT N G P l).2.2.2 ++ (allT (allT N G P l).1 (allT N G P l).2.1 (allT N G P l).2.2.1 m).2.2.2)
  | [], m, N, G, P => rfl
  | c :: t, m, N, G, P => by simp only [List.cons_append, allT, all_app t m]
theorem all_loop : ∀ (d i k : Nat) (l : List S76) (acc : List S73) (N : List S48) (G P : List Int), i + d = l.length → 500 + d < k → mayMB N G P = true → acc.length + d < 1000 → l.length < 1000 →
    calls_All.l0 k acc l (l.length : Int) (i : Int) N G P = some ((allT N G P (l.drop i)).1, (allT N G P (l.drop i)).2.1, (allT N G P (l.drop i)).2.2.1, acc ++ (allT N G P (l.drop i)).2.2.2)
  | 0, i, k, l, acc, N, G, P, hi, hk, hm, ha, hl => by
    obtain ⟨k, rfl⟩ : ∃ j, k = j + 1 := ⟨k - 1, by omega⟩
    rw [calls_All.l0, if_neg (by omega), List.drop_eq_nil_of_le (by omega)]
    simp [allT]
  | d + 1, i, k, l, acc, N, G, P, hi, hk, hm, ha, hl => by
    obtain ⟨k, rfl⟩ : ∃ j, k = j + 1 := ⟨k - 1, by omega⟩
    have hlt : i < l.length := by omega
    have hr : rd_T76 l (i : Int) = l[i] := by simp [rd_T76, List.getD_eq_getElem?_getD, List.getElem?_eq_getElem hlt]
    rw [calls_All.l0, if_pos (by omega), if_pos (by omega), if_pos (by omega), hr, do_k (may_Lim hm) _ (by omega), List.drop_eq_getElem_cons hlt]
    simp only [Option.bind_some]
    rw [if_pos (by omega), show wrap64 ((i : Int) + 1) = ((i + 1 : Nat) : Int) by rw [wrap_in (by omega) (by omega)]; simp,
      all_loop d (i + 1) k l _ _ _ _ (by omega) (by omega) (do_may hm _) (by simp; omega) hl]
    simp [allT]
theorem all_k {N : List S48} {G P : List Int} (hm : mayMB N G P = true) {l : List S76} (hl : l.length ≤ 64) {k : Nat} (hk : 600 ≤ k) : calls_All.f k N G P l = some (allT N G P l) := by
  unfold calls_All.f
  rw [cown_k k (may_Lim hm).lim3]
  simp only [Option.bind_some]
  have := all_loop l.length 0 k l [] N G P (by omega) (by omega) hm (by simp; omega) (by omega)
  rw [List.drop_zero, List.nil_append] at this
  exact this
theorem backs_loop (a : List S73) (ha : a.length < 1000) : ∀ (d i k : Nat), i + d = a.length → d < k → roadbookref20_Backs.l0 k a a (i : Int) = some true
  | 0, i, k, hi, hk => by
    obtain ⟨k, rfl⟩ : ∃ j, k = j + 1 := ⟨k - 1, by omega⟩
    rw [roadbookref20_Backs.l0, if_neg (by omega)]
  | d + 1, i, k, hi, hk => by
    obtain ⟨k, rfl⟩ : ∃ j, k = j + 1 := ⟨k - 1, by omega⟩
    rw [roadbookref20_Backs.l0, if_pos (by omega), if_pos (by omega), if_pos (by omega), if_neg (by simp), show wrap64 ((i : Int) + 1) = ((i + 1 : Nat) : Int) by rw [wrap_in (by omega) (by omega)]; simp]
    exact backs_loop a ha d (i + 1) k (by omega) (by omega)
theorem backs_k {a : List S73} (ha : a.length < 1000) {k : Nat} (hk : 1000 ≤ k) : roadbookref20_Backs.f k a a = some true := by
  unfold roadbookref20_Backs.f
  rw [if_pos rfl]
  exact backs_loop a ha a.length 0 k (by omega) (by omega)
theorem far_k (N : List S48) (G P : List Int) (m : Int) : roadbooklaw16_Far.f N G P m = some (if fewB N G P m = true then 0 else 1) := by
  unfold roadbooklaw16_Far.f
  rw [few_k]
  simp only [Option.bind_some]
  split <;> rfl
end Go.Proofs.Ytkidnomkfdnciaa.Pure
