/- Plain facts on putting a node into a memo, and what the printed Put comes to. Nothing is proved of the program here. -/
import Derived.Test.YtkidnomkfdnciaaMemo2
import Derived.Test.YtkidnomkfdnciaaAllx16
import Derived.Test.YtkidnomkfdnciaaAllx19
namespace Go.Proofs.Ytkidnomkfdnciaa.All
open Go.RowKit Go.Proofs.YtkidnomkfdnciaaW.PrintWords

/-- What Put tells. -/
def putT (N : List S48) (G P : List Int) (n : S48) (g : Int) : List S48 × List Int × List Int × Int × Int :=
  if (mayMB N G P && (nodeB P n && (decide (g = -1) || inB P g))) = true then
    if (lookS N G P n).2 = true then
      if g = -1 ∨ findS P g = (lookS N G P n).1 then (N, G, P, (lookS N G P n).1, 0)
      else (N, G, (mergeT N G P g (lookS N G P n).1).1, (mergeT N G P g (lookS N G P n).1).2.1, (mergeT N G P g (lookS N G P n).1).2.2)
    else if N.length = 400 ∨ g = -1 ∧ P.length = 400 then (N, G, P, -1, 3)
    else if g = -1 then (N ++ [n], G ++ [(P.length : Int)], P ++ [(P.length : Int)], findS (P ++ [(P.length : Int)]) (P.length : Int), 0)
    else (N ++ [n], G ++ [g], P, findS P g, 0)
  else (N, G, P, -1, 1)
section
variable {N : List S48} {G P : List Int}
theorem put_j2 (hm : mayMB N G P = true) (n : S48) (g : Int) (k : Nat) : memo_Put.j2 (k + 1) g N G P n.f0 n.f1 n.f2 n.f3 =
    some (if g = -1 then (N ++ [n], G ++ [(P.length : Int)], P ++ [(P.length : Int)], findS (P ++ [(P.length : Int)]) (P.length : Int), 0) else (N ++ [n], G ++ [g], P, findS P g, 0)) := by
  have h1 := may_lenN hm
  have h2 := may_lenG hm
  have h3 := may_lenP hm
  simp only [memo_Put.j2]
  rw [own_some N G P k (may_Lim hm).lim3]
  unfold memo_Find.f sets_Find.f
  simp only [Option.bind_some, List.length_singleton]
  by_cases hg : g = -1
  · rw [if_pos hg, if_pos hg, if_pos (by omega), if_pos (by omega), if_pos (by omega)]
  · rw [if_neg hg, if_neg hg, if_pos (by omega), if_pos (by omega)]
theorem put_j1 (hm : mayMB N G P = true) (n : S48) (g h : Int) (has one : Bool) {k : Nat} (hk : 450 ≤ k) : memo_Put.j1 (k + 2) g h has one N G P n.f0 n.f1 n.f2 n.f3 =
    some (if one = true then (N, G, P, h, 0) else if has = true then (N, G, (mergeT N G P g h).1, (mergeT N G P g h).2.1, (mergeT N G P g h).2.2)
      else if N.length = 400 ∨ g = -1 ∧ P.length = 400 then (N, G, P, -1, 3)
      else if g = -1 then (N ++ [n], G ++ [(P.length : Int)], P ++ [(P.length : Int)], findS (P ++ [(P.length : Int)]) (P.length : Int), 0) else (N ++ [n], G ++ [g], P, findS P g, 0)) := by
  simp only [memo_Put.j1]
  rw [own_some N G P _ (may_Lim hm).lim3, merge_k (may_Lim hm) (by omega), put_j2 hm]
  simp only [Option.bind_some]
  cases one with
  | true => rfl
  | false =>
    cases has with
    | true => rfl
    | false =>
      simp only [Bool.false_eq_true, if_false]
      by_cases h1 : (N.length : Int) = 400
      · rw [if_pos h1, if_pos (Or.inl (by omega))]
      · rw [if_neg h1]
        by_cases hg : g = -1
        · rw [if_pos hg]
          by_cases h2 : (P.length : Int) = 400
          · rw [if_pos h2, if_pos (Or.inr ⟨hg, by omega⟩)]
          · rw [if_neg h2, if_neg (show ¬ (N.length = 400 ∨ g = -1 ∧ P.length = 400) by omega)]
        · rw [if_neg hg, if_neg (show ¬ (N.length = 400 ∨ g = -1 ∧ P.length = 400) by omega)]
theorem put_j0 (hm : mayMB N G P = true) (n : S48) (g : Int) {k : Nat} (hk : 450 ≤ k) : memo_Put.j0 (k + 3) g false N G P n.f0 n.f1 n.f2 n.f3 =
    some (if (lookS N G P n).2 = true then
      if g = -1 ∨ findS P g = (lookS N G P n).1 then (N, G, P, (lookS N G P n).1, 0)
      else (N, G, (mergeT N G P g (lookS N G P n).1).1, (mergeT N G P g (lookS N G P n).1).2.1, (mergeT N G P g (lookS N G P n).1).2.2)
    else if N.length = 400 ∨ g = -1 ∧ P.length = 400 then (N, G, P, -1, 3)
    else if g = -1 then (N ++ [n], G ++ [(P.length : Int)], P ++ [(P.length : Int)], findS (P ++ [(P.length : Int)]) (P.length : Int), 0)
    else (N ++ [n], G ++ [g], P, findS P g, 0)) := by
  simp only [memo_Put.j0, Bool.false_eq_true, if_false]
  rw [look_f]
  unfold memo_Find.f sets_Find.f
  simp only [Option.bind_some, put_j1 hm n g _ _ _ hk, Bool.false_eq_true, if_false, if_true]
  cases hh : (lookS N G P n).2 with
  | false => simp only [Bool.false_eq_true, if_false]
  | true =>
    simp only [if_true]
    by_cases hg : g = -1
    · rw [if_pos hg, if_pos (Or.inl hg)]
    · rw [if_neg hg]
      by_cases he : findS P g = (lookS N G P n).1
      · rw [he, if_pos (beq_self_eq_true _), if_pos (Or.inr rfl)]
      · rw [if_neg (by simpa using he), if_neg (by rintro (h | h); exact hg h; exact he h)]
theorem put_k (hL : Lim N G P) (n : S48) (g : Int) {k : Nat} (hk : 500 ≤ k) : memo_Put.f k N G P n.f0 n.f1 n.f2 n.f3 g = some (putT N G P n g) := by
  obtain ⟨k, rfl⟩ : ∃ m, k = m + 3 := ⟨k - 3, by omega⟩
  have bad : memo_Put.j0 (k + 3) g true N G P n.f0 n.f1 n.f2 n.f3 = some (N, G, P, -1, 1) := by
    simp only [memo_Put.j0, if_true]
    rw [own_some N G P _ hL.lim3]
    rfl
  unfold memo_Put.f memo_May.f putT
  rw [node_some, bad]
  simp only [Option.bind_some]
  cases hm : mayMB N G P with
  | false => simp
  | true =>
    rw [put_j0 hm n g (by omega)]
    cases hn : nodeB P n with
    | false => simp
    | true =>
      simp only [if_true, Bool.true_and]
      by_cases hg : g = -1
      · rw [if_pos hg, decide_eq_true hg, Bool.true_or, if_pos rfl]
      · rw [if_neg hg, is_some, decide_eq_false hg, Bool.false_or]
        simp only [Option.bind_some]
        cases hb : inB P g with
        | false => simp [bad]
        | true => simp only [Bool.not_true, if_true]; exact put_j0 hm n g (by omega)
end
/-! ### a node more -/
theorem form_of {N : List S48} {G P : List Int} (hm : mayB P = true) (hl : G.length = N.length) (hN : N.length ≤ 400) (hg : ∀ i, i < G.length → inB P (G.getD i 0) = true) (hn : ∀ i, i < N.length → nodeB P (N.getD i z48) = true) : formB N G P = true := by
  unfold formB
  rw [hm, decide_eq_true hl, decide_eq_true hN]
  simp only [Bool.true_and, Bool.and_eq_true, Bool.not_eq_true', List.any_eq_false]
  refine ⟨fun x hx => ?_, fun x hx => ?_⟩
  · obtain ⟨i, hi, rfl⟩ := List.getElem_of_mem hx
    have := hg i hi
    rw [List.getD_eq_getElem?_getD, List.getElem?_eq_getElem hi] at this
    simpa using this
  · obtain ⟨i, hi, rfl⟩ := List.getElem_of_mem hx
    have := hn i hi
    rw [List.getD_eq_getElem?_getD, List.getElem?_eq_getElem hi] at this
    simpa using this
theorem getD_snoc {α : Type} (l : List α) (x z : α) (i : Nat) : (l ++ [x]).getD i z = if i < l.length then l.getD i z else if i = l.length then x else z := by
  by_cases h : i < l.length
  · rw [if_pos h, List.getD_eq_getElem?_getD, List.getElem?_append_left h, List.getD_eq_getElem?_getD]
  · rw [if_neg h, List.getD_eq_getElem?_getD, List.getElem?_append_right (by omega)]
    by_cases h2 : i = l.length
    · rw [if_pos h2, h2]; simp
    · rw [if_neg h2, List.getElem?_eq_none (by simp; omega)]; rfl
/-- Where the sets are as they were for what was there. -/
structure Wider (P P' : List Int) : Prop where
  may : mayB P' = true
  find : ∀ g, inB P g = true → findS P' g = findS P g
  inb : ∀ g, inB P g = true → inB P' g = true
section
variable {P P' : List Int}
theorem Wider.refl (h : mayB P = true) : Wider P P := ⟨h, fun _ _ => rfl, fun _ h => h⟩
theorem Wider.node (h : Wider P P') {n : S48} (hn : nodeB P n = true) : nodeB P' n = true := by
  cases hj : n.f0 with
  | false =>
    unfold nodeB at *
    rw [if_neg (by rw [hj]; decide)] at *
    exact hn
  | true =>
    obtain ⟨h1, h2, h3⟩ := node_join hn hj
    unfold nodeB
    rw [if_pos hj, h.inb _ h2, h.inb _ h3, h1]
    rfl
theorem Wider.canon (hm : mayB P = true) (h : Wider P P') {n : S48} (hn : nodeB P n = true) : canonS (rootsS P') n = canonS (rootsS P) n := by
  cases hj : n.f0 with
  | false => rw [canon_not _ hj, canon_not _ hj]
  | true =>
    obtain ⟨h1, h2, h3⟩ := node_join hn hj
    rw [canon_join h.may (h.node hn) hj, canon_join hm hn hj, h.find _ h2, h.find _ h3]
/-- One more number, by itself. -/
theorem snoc_may (hm : mayB P = true) (hl : P.length < 400) : mayB (P ++ [(P.length : Int)]) = true := by
  refine mayB_of (fun i hi => ?_) (by simp; omega)
  rw [getD_snoc]
  by_cases h : i < P.length
  · rw [if_pos h]; exact mayB_at hm i h
  · have : i = P.length := by simp at hi; omega
    rw [if_neg h, if_pos this]
    omega
theorem snoc_root (hm : mayB P = true) (hl : P.length < 400) : ∀ i, i < P.length → rootN (P ++ [(P.length : Int)]) i = rootN P i := by
  intro i
  induction i using Nat.strongRecOn with
  | _ i ih =>
    intro hi
    have hb := mayB_at hm i hi
    rw [rootN_step P hm i hi, rootN_step _ (snoc_may hm hl) i (by simp; omega), getD_snoc, if_pos hi]
    by_cases he : P.getD i 0 = (i : Int)
    · rw [if_pos he, if_pos he]
    · rw [if_neg he, if_neg he]
      exact ih _ (by omega) (by omega)
theorem snoc_last (hm : mayB P = true) (hl : P.length < 400) : findS (P ++ [(P.length : Int)]) (P.length : Int) = (P.length : Int) := by
  rw [find_in (snoc_may hm hl) (inB_iff.2 ⟨by omega, by simp; omega⟩), Int.toNat_natCast, rootN_of_fix (snoc_may hm hl) (by simp) (by rw [getD_snoc, if_neg (by omega), if_pos rfl])]
theorem snoc_wider (hm : mayB P = true) (hl : P.length < 400) : Wider P (P ++ [(P.length : Int)]) := by
  have hin : ∀ g, inB P g = true → inB (P ++ [(P.length : Int)]) g = true := fun g hg => by
    have := inB_iff.1 hg
    exact inB_iff.2 ⟨this.1, by simp; omega⟩
  refine ⟨snoc_may hm hl, fun g hg => ?_, hin⟩
  rw [find_in hm hg, find_in (snoc_may hm hl) (hin g hg), snoc_root hm hl _ (inB_nat hg)]
theorem new_may {N : List S48} {G : List Int} {n : S48} {g : Int} (h : mayMB N G P = true) (w : Wider P P') (hn : nodeB P n = true) (hg : inB P' g = true) (hl : N.length < 400) (hno : ∀ i, i < N.length → canonS (rootsS P) (N.getD i z48) ≠ canonS (rootsS P) n) : mayMB (N ++ [n]) (G ++ [g]) P' = true := by
  have hG := may_lenG h
  have hm := may_P h
  refine mayM_iff.2 ⟨form_of w.may (by simp; exact hG) (by simp; omega) (fun i hi => ?_) (fun i hi => ?_), fun i k hi hk he => ?_⟩
  · rw [getD_snoc]
    by_cases h1 : i < G.length
    · rw [if_pos h1]; exact w.inb _ (form_G (may_form h) (by omega))
    · rw [if_neg h1, if_pos (by simp at hi; omega)]; exact hg
  · rw [getD_snoc]
    by_cases h1 : i < N.length
    · rw [if_pos h1]; exact w.node (form_N (may_form h) h1)
    · rw [if_neg h1, if_pos (by simp at hi; omega)]; exact w.node hn
  · simp only [List.length_append, List.length_singleton] at hi hk
    rw [getD_snoc, getD_snoc] at he
    rw [getD_snoc, getD_snoc, hG]
    by_cases h1 : i < N.length
    · by_cases h2 : k < N.length
      · rw [if_pos h1, if_pos h2] at he ⊢
        rw [w.canon hm (form_N (may_form h) h1), w.canon hm (form_N (may_form h) h2)] at he
        rw [w.find _ (form_G (may_form h) h1), w.find _ (form_G (may_form h) h2)]
        exact may_closed h i k h1 h2 he
      · rw [if_pos h1, if_neg h2, if_pos (by omega), w.canon hm (form_N (may_form h) h1), w.canon hm hn] at he
        exact absurd he (hno i h1)
    · by_cases h2 : k < N.length
      · rw [if_neg h1, if_pos (by omega), if_pos h2, w.canon hm (form_N (may_form h) h2), w.canon hm hn] at he
        exact absurd he.symm (hno k h2)
      · rw [if_neg h1, if_neg h2, if_pos (by omega), if_pos (by omega)]
end
/-- What Put comes to, case by case. -/
inductive PutC (N : List S48) (G P : List Int) (n : S48) (g : Int) : List S48 × List Int × List Int × Int × Int → Prop
  | bad (h : mayMB N G P = false ∨ nodeB P n = false ∨ (g ≠ -1 ∧ inB P g = false)) : PutC N G P n g (N, G, P, -1, 1)
  | has (h : mayMB N G P = true) (hn : nodeB P n = true) (i : Nat) (hi : i < N.length) (hc : canonS (rootsS P) (N.getD i z48) = canonS (rootsS P) n) (hg : g = -1 ∨ inB P g = true ∧ findS P g = findS P (G.getD i 0)) : PutC N G P n g (N, G, P, findS P (G.getD i 0), 0)
  | merge (hn : nodeB P n = true) (i : Nat) (hi : i < N.length) (hc : canonS (rootsS P) (N.getD i z48) = canonS (rootsS P) n) (hg : g ≠ -1) (h : Mer N G P g (findS P (G.getD i 0))) : PutC N G P n g (N, G, mergeP N G P g (findS P (G.getD i 0)), findS (mergeP N G P g (findS P (G.getD i 0))) g, 0)
  | full (h : mayMB N G P = true) (hf : N.length = 400 ∨ g = -1 ∧ P.length = 400) : PutC N G P n g (N, G, P, -1, 3)
  | own (h : mayMB N G P = true) (hn : nodeB P n = true) (hno : ∀ i, i < N.length → canonS (rootsS P) (N.getD i z48) ≠ canonS (rootsS P) n) (hl : N.length < 400) (hp : P.length < 400) (hg : g = -1) : PutC N G P n g (N ++ [n], G ++ [(P.length : Int)], P ++ [(P.length : Int)], (P.length : Int), 0)
  | new (h : mayMB N G P = true) (hn : nodeB P n = true) (hno : ∀ i, i < N.length → canonS (rootsS P) (N.getD i z48) ≠ canonS (rootsS P) n) (hl : N.length < 400) (hg : g ≠ -1) (hb : inB P g = true) : PutC N G P n g (N ++ [n], G ++ [g], P, findS P g, 0)
theorem put_cases (N : List S48) (G P : List Int) (n : S48) (g : Int) : PutC N G P n g (putT N G P n g) := by
  unfold putT
  by_cases hc : (mayMB N G P && (nodeB P n && (decide (g = -1) || inB P g))) = true
  · rw [if_pos hc]
    simp only [Bool.and_eq_true, Bool.or_eq_true, decide_eq_true_eq] at hc
    obtain ⟨hm, hn, hg⟩ := hc
    rcases look_cases N G P n with ⟨h1, h2⟩ | ⟨_, _, i, hi, hcn, h1⟩
    · rw [h1]
      simp only [Bool.false_eq_true, if_false]
      have hlN := may_lenN hm
      have hlP := may_lenP hm
      by_cases hf : N.length = 400 ∨ g = -1 ∧ P.length = 400
      · rw [if_pos hf]; exact .full hm hf
      · rw [if_neg hf]
        by_cases hg1 : g = -1
        · rw [if_pos hg1, snoc_last (may_P hm) (by omega)]
          exact .own hm hn (h2 hm hn) (by omega) (by omega) hg1
        · rw [if_neg hg1]
          exact .new hm hn (h2 hm hn) (by omega) hg1 (by rcases hg with h | h; exact absurd h hg1; exact h)
    · rw [h1]
      simp only [if_true]
      by_cases he : g = -1 ∨ findS P g = findS P (G.getD i 0)
      · rw [if_pos he]
        refine .has hm hn i hi hcn ?_
        rcases hg with h | h
        · exact .inl h
        · rcases he with h' | h'
          · exact .inl h'
          · exact .inr ⟨h, h'⟩
      · rw [if_neg he]
        have hg1 : g ≠ -1 := fun h => he (.inl h)
        have hb : inB P g = true := by rcases hg with h | h; exact absurd h hg1; exact h
        have hM : Mer N G P g (findS P (G.getD i 0)) := ⟨hm, hb, (find_bd (may_P hm) (form_G (may_form hm) hi)).1⟩
        rw [hM.eq]
        exact .merge hn i hi hcn hg1 hM
  · rw [if_neg hc]
    refine .bad ?_
    cases hm : mayMB N G P with
    | false => exact .inl rfl
    | true =>
      cases hn : nodeB P n with
      | false => exact .inr (.inl rfl)
      | true =>
        rw [hm, hn] at hc
        simp only [Bool.true_and, Bool.or_eq_true, decide_eq_true_eq, not_or, Bool.not_eq_true] at hc
        exact .inr (.inr hc)
/-- A memo that may be may be still. -/
theorem PutC.after {N : List S48} {G P : List Int} {n : S48} {g : Int} {N' : List S48} {G' P' : List Int} {h e : Int} (c : PutC N G P n g (N', G', P', h, e)) (hm : mayMB N G P = true) : mayMB N' G' P' = true := by
  cases c with
  | bad _ => exact hm
  | has _ _ _ _ _ _ => exact hm
  | merge _ _ _ _ _ h => exact h.after
  | full _ _ => exact hm
  | own h hn hno hl hp hg => exact new_may h (snoc_wider (may_P h) hp) hn (inB_iff.2 ⟨by omega, by simp; omega⟩) hl hno
  | new h hn hno hl hg hb => exact new_may h (Wider.refl (may_P h)) hn hb hl hno
/-- What holds where Put has told no error. -/
structure PutOk (N : List S48) (G P : List Int) (n : S48) (g : Int) (N' : List S48) (G' P' : List Int) (h : Int) : Prop where
  was : mayMB N G P = true
  may : mayMB N' G' P' = true
  node : nodeB P' n = true
  at_ : ∃ i, i < N'.length ∧ canonS (rootsS P') (N'.getD i z48) = canonS (rootsS P') n ∧ h = findS P' (G'.getD i 0)
  grp : g = -1 ∨ inB P' g = true ∧ findS P' g = h
  n0 : N.length ≤ N'.length
  n1 : N'.length ≤ N.length + 1
  p0 : P.length ≤ P'.length
  p1 : P'.length ≤ P.length + 1
  ns : ∀ j, j < N.length → N'.getD j z48 = N.getD j z48
  gs : ∀ j, j < N.length → G'.getD j 0 = G.getD j 0
  one : ∀ a b, inB P a = true → inB P b = true → findS P a = findS P b → findS P' a = findS P' b
theorem PutC.ok {N : List S48} {G P : List Int} {n : S48} {g : Int} {r : List S48 × List Int × List Int × Int × Int} (c : PutC N G P n g r) (he : r.2.2.2.2 = 0) : PutOk N G P n g r.1 r.2.1 r.2.2.1 r.2.2.2.1 := by
  cases c with
  | bad _ => exact absurd (show (1 : Int) = 0 from he) (by decide)
  | full _ _ => exact absurd (show (3 : Int) = 0 from he) (by decide)
  | has h hn i hi hc hg => exact ⟨h, h, hn, ⟨i, hi, hc, rfl⟩, hg, Nat.le_refl _, Nat.le_succ _, Nat.le_refl _, Nat.le_succ _, fun _ _ => rfl, fun _ _ => rfl, fun _ _ _ _ h => h⟩
  | merge hn i hi hc hg h =>
    have hin := form_G (may_form h.may) hi
    have hP := may_P h.may
    refine ⟨h.may, h.after, by rw [node_len h.len]; exact hn, ⟨i, hi, canon_le hP h.spec.may h.spec.le (form_N (may_form h.may) hi) hn hc, ?_⟩, .inr ⟨by rw [h.inB]; exact h.a, rfl⟩, Nat.le_refl _, Nat.le_succ _, Nat.le_of_eq h.len.symm, by have := h.len; dsimp only; omega, fun _ _ => rfl, fun _ _ => rfl, fun a b ha hb e => h.spec.le.same hP h.spec.may ha hb e⟩
    show findS _ g = _
    rw [h.spec.two, h.find hin]
  | own h hn hno hl hp hg =>
    have w := snoc_wider (may_P h) hp
    have hG := may_lenG h
    refine ⟨h, new_may h w hn (inB_iff.2 ⟨by omega, by simp; omega⟩) hl hno, w.node hn, ⟨N.length, by simp, by rw [getD_snoc, if_neg (by omega), if_pos rfl], ?_⟩, .inl hg, by simp, by simp, by simp, by simp, fun j hj => by rw [getD_snoc, if_pos hj], fun j hj => by rw [getD_snoc, if_pos (by omega)], fun a b ha hb e => by rw [w.find a ha, w.find b hb]; exact e⟩
    rw [getD_snoc, if_neg (by omega), if_pos hG.symm, snoc_last (may_P h) hp]
  | new h hn hno hl hg hb =>
    have hG := may_lenG h
    refine ⟨h, new_may h (Wider.refl (may_P h)) hn hb hl hno, hn, ⟨N.length, by simp, by rw [getD_snoc, if_neg (by omega), if_pos rfl], ?_⟩, .inr ⟨hb, rfl⟩, by simp, by simp, Nat.le_refl _, Nat.le_succ _, fun j hj => by rw [getD_snoc, if_pos hj], fun j hj => by rw [getD_snoc, if_pos (by omega)], fun _ _ _ _ e => e⟩
    rw [getD_snoc, if_neg (by omega), if_pos hG.symm]
theorem PutC.no {N : List S48} {G P : List Int} {n : S48} {g : Int} {r : List S48 × List Int × List Int × Int × Int} (c : PutC N G P n g r) (he : r.2.2.2.2 ≠ 0) : r.2.2.2.1 = -1 ∧ r.1 = N ∧ r.2.1 = G ∧ r.2.2.1 = P := by
  cases c with
  | bad _ => exact ⟨rfl, rfl, rfl, rfl⟩
  | full _ _ => exact ⟨rfl, rfl, rfl, rfl⟩
  | has _ _ _ _ _ _ => exact absurd rfl he
  | merge _ _ _ _ _ _ => exact absurd rfl he
  | own _ _ _ _ _ _ => exact absurd rfl he
  | new _ _ _ _ _ _ => exact absurd rfl he
section
variable {N : List S48} {G P : List Int} {n : S48} {g : Int} {N' : List S48} {G' P' : List Int} {h : Int}
end
end Go.Proofs.Ytkidnomkfdnciaa.All
