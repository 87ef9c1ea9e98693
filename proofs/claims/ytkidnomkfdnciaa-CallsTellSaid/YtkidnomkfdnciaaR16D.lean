/- Plain facts on putting a node into a memo, and what the printed Put comes to. Nothing is proved of the program here. -/
import Derived.Test.YtkidnomkfdnciaaQRel
import Derived.Test.YtkidnomkfdnciaaAllx16
import Derived.Test.YtkidnomkfdnciaaAllx19
import Derived.Test.YtkidnomkfdnciaaR16B
import Derived.Deep.LoopGhost
namespace Go.Proofs.Ytkidnomkfdnciaa.All
open Go.RowKit Go.Proofs.YtkidnomkfdnciaaW.PrintWords
def putT (N : List S48) (G P : List Int) (n : S48) (g : Int) : List S48 × List Int × List Int × Int × Int :=
 if (mayMB N G P && (nodeB P n && (decide (g = -1) || inB P g))) = true then
  if (lookS N G P n).2 = true then
   if g = -1 ∨ findS P g = (lookS N G P n).1 then (N, G, P, (lookS N G P n).1, 0)
   else (N, G, (mergeT N G P g (lookS N G P n).1).1, (mergeT N G P g (lookS N G P n).1).2.1, (mergeT N G P g (lookS N G P n).1).2.2)
  else if N.length = 400 ∨ g = -1 ∧ P.length = 400 then (N, G, P, -1, 3)
  else if g = -1 then (N ++ [n], G ++ [(P.length : Int)], P ++ [(P.length : Int)], findS (P ++ [(P.length : Int)]) (P.length : Int), 0)
  else (N ++ [n], G ++ [g], P, findS P g, 0)
 else (N, G, P, -1, 1)
section
variable {N : List S48} {G P : List Int}
theorem put_j2 (hm : mayMB N G P = true) (n : S48) (g : Int) (k : Nat) : memo_Put.j2 (k + 1) g N G P n.f0 n.f1 n.f2 n.f3 =
  some (if g = -1 then (N ++ [n], G ++ [(P.length : Int)], P ++ [(P.length : Int)], findS (P ++ [(P.length : Int)]) (P.length : Int), 0) else (N ++ [n], G ++ [g], P, findS P g, 0)) := by
 have h1 := may_lenN hm
 have h2 := may_lenG hm
 have h3 := may_lenP hm
 simp only [memo_Put.j2]
 rw [own_some N G P k (may_Lim hm).lim3]
 unfold memo_Find.f sets_Find.f
 simp only [Option.bind_some, List.length_singleton]
 by_cases hg : g = -1
 ·rw [if_pos hg, if_pos hg, if_pos (by omega), if_pos (by omega), if_pos (by omega)]
 ·rw [if_neg hg, if_neg hg, if_pos (by omega), if_pos (by omega)]
theorem put_j1 (hm : mayMB N G P = true) (n : S48) (g h : Int) (has one : Bool) {k : Nat} (hk : 450 ≤ k) : memo_Put.j1 (k + 2) g h has one N G P n.f0 n.f1 n.f2 n.f3 =
  some (if one = true then (N, G, P, h, 0) else if has = true then (N, G, (mergeT N G P g h).1, (mergeT N G P g h).2.1, (mergeT N G P g h).2.2)
   else if N.length = 400 ∨ g = -1 ∧ P.length = 400 then (N, G, P, -1, 3)
   else if g = -1 then (N ++ [n], G ++ [(P.length : Int)], P ++ [(P.length : Int)], findS (P ++ [(P.length : Int)]) (P.length : Int), 0) else (N ++ [n], G ++ [g], P, findS P g, 0)) := by
 simp only [memo_Put.j1]
 rw [own_some N G P _ (may_Lim hm).lim3, merge_k (may_Lim hm) (by omega), put_j2 hm]
 simp only [Option.bind_some]
 cases one with
 | true => rfl
 | false =>
  cases has with
  | true => rfl
  | false =>
   simp only [Bool.false_eq_true, if_false]
   by_cases h1 : (N.length : Int) = 400
   ·rw [if_pos h1, if_pos (Or.inl (by omega))]
   ·rw [if_neg h1]
    by_cases hg : g = -1
    ·rw [if_pos hg]
     by_cases h2 : (P.length : Int) = 400
     ·rw [if_pos h2, if_pos (Or.inr ⟨hg, by omega⟩)]
     ·rw [if_neg h2, if_neg (show ¬ (N.length = 400 ∨ g = -1 ∧ P.length = 400) by omega)]
    ·rw [if_neg hg, if_neg (show ¬ (N.length = 400 ∨ g = -1 ∧ P.length = 400) by omega)]
theorem put_j0 (hm : mayMB N G P = true) (n : S48) (g : Int) {k : Nat} (hk : 450 ≤ k) : memo_Put.j0 (k + 3) g false N G P n.f0 n.f1 n.f2 n.f3 =
  some (if (lookS N G P n).2 = true then
   if g = -1 ∨ findS P g = (lookS N G P n).1 then (N, G, P, (lookS N G P n).1, 0)
   else (N, G, (mergeT N G P g (lookS N G P n).1).1, (mergeT N G P g (lookS N G P n).1).2.1, (mergeT N G P g (lookS N G P n).1).2.2)
  else if N.length = 400 ∨ g = -1 ∧ P.length = 400 then (N, G, P, -1, 3)
  else if g = -1 then (N ++ [n], G ++ [(P.length : Int)], P ++ [(P.length : Int)], findS (P ++ [(P.length : Int)]) (P.length : Int), 0)
  else (N ++ [n], G ++ [g], P, findS P g, 0)) := by
 simp only [memo_Put.j0, Bool.false_eq_true, if_false]
 rw [look_f]
 unfold memo_Find.f sets_Find.f
 simp only [Option.bind_some, put_j1 hm n g _ _ _ hk, Bool.false_eq_true, if_false, if_true]
 cases hh : (lookS N G P n).2 with
 | false => simp only [Bool.false_eq_true, if_false]
 | true =>
  simp only [if_true]
  by_cases hg : g = -1
  ·rw [if_pos hg, if_pos (Or.inl hg)]
  ·rw [if_neg hg]
   by_cases he : findS P g = (lookS N G P n).1
   ·rw [he, if_pos (beq_self_eq_true _), if_pos (Or.inr rfl)]
   ·rw [if_neg (by simpa using he), if_neg (by rintro (h | h); exact hg h; exact he h)]
theorem put_k (hL : Lim N G P) (n : S48) (g : Int) {k : Nat} (hk : 500 ≤ k) : memo_Put.f k N G P n.f0 n.f1 n.f2 n.f3 g = some (putT N G P n g) := by
 obtain ⟨k, rfl⟩ : ∃ m, k = m + 3 := ⟨k - 3, by omega⟩
 have bad : memo_Put.j0 (k + 3) g true N G P n.f0 n.f1 n.f2 n.f3 = some (N, G, P, -1, 1) := by
  simp only [memo_Put.j0, if_true]
  rw [own_some N G P _ hL.lim3]
  rfl
 unfold memo_Put.f memo_May.f putT
 rw [node_some, bad]
 simp only [Option.bind_some]
 cases hm : mayMB N G P with
 | false => simp
 | true =>
  rw [put_j0 hm n g (by omega)]
  cases hn : nodeB P n with
  | false => simp
  | true =>
   simp only [if_true, Bool.true_and]
   by_cases hg : g = -1
   ·rw [if_pos hg, decide_eq_true hg, Bool.true_or, if_pos rfl]
   ·rw [if_neg hg, is_some, decide_eq_false hg, Bool.false_or]
    simp only [Option.bind_some]
    cases hb : inB P g with
    | false => simp [bad]
    | true => simp only [Bool.not_true, if_true]; exact put_j0 hm n g (by omega)
end
theorem form_of {N : List S48} {G P : List Int} (hm : mayB P = true) (hl : G.length = N.length) (hN : N.length ≤ 400) (hg : ∀ i, i < G.length → inB P (G.getD i 0) = true) (hn : ∀ i, i < N.length → nodeB P (N.getD i z48) = true) : formB N G P = true := by
 unfold formB
 rw [hm, decide_eq_true hl, decide_eq_true hN]
 simp only [Bool.true_and, Bool.and_eq_true, Bool.not_eq_true', List.any_eq_false]
 refine ⟨fun x hx => ?_, fun x hx => ?_⟩
 ·obtain ⟨i, hi, rfl⟩ := List.getElem_of_mem hx
  have := hg i hi
  rw [List.getD_eq_getElem?_getD, List.getElem?_eq_getElem hi] at this
  simpa using this
 ·obtain ⟨i, hi, rfl⟩ := List.getElem_of_mem hx
  have := hn i hi
  rw [List.getD_eq_getElem?_getD, List.getElem?_eq_getElem hi] at this
  simpa using this
theorem getD_snoc {α : Type} (l : List α) (x z : α) (i : Nat) : (l ++ [x]).getD i z = if i < l.length then l.getD i z else if i = l.length then x else z := by
 by_cases h : i < l.length
 ·rw [if_pos h, List.getD_eq_getElem?_getD, List.getElem?_append_left h, List.getD_eq_getElem?_getD]
 ·rw [if_neg h, List.getD_eq_getElem?_getD, List.getElem?_append_right (by omega)]
  by_cases h2 : i = l.length
  ·rw [if_pos h2, h2]; simp
  ·rw [if_neg h2, List.getElem?_eq_none (by simp; omega)]; rfl
structure Wider (P P' : List Int) : Prop where
 may : mayB P' = true
 find : ∀ g, inB P g = true → findS P' g = findS P g
 inb : ∀ g, inB P g = true → inB P' g = true
section
variable {P P' : List Int}
theorem Wider.refl (h : mayB P = true) : Wider P P := ⟨h, fun _ _ => rfl, fun _ h => h⟩
theorem Wider.node (h : Wider P P') {n : S48} (hn : nodeB P n = true) : nodeB P' n = true := by
 cases hj : n.f0 with
 | false =>
  unfold nodeB at *
  rw [if_neg (by rw [hj]; decide)] at *
  exact hn
 | true =>
  obtain ⟨h1, h2, h3⟩ := node_join hn hj
  unfold nodeB
  rw [if_pos hj, h.inb _ h2, h.inb _ h3, h1]
  rfl
theorem Wider.canon (hm : mayB P = true) (h : Wider P P') {n : S48} (hn : nodeB P n = true) : canonS (rootsS P') n = canonS (rootsS P) n := by
 cases hj : n.f0 with
 | false => rw [canon_not _ hj, canon_not _ hj]
 | true =>
  obtain ⟨h1, h2, h3⟩ := node_join hn hj
  rw [canon_join h.may (h.node hn) hj, canon_join hm hn hj, h.find _ h2, h.find _ h3]
theorem snoc_may (hm : mayB P = true) (hl : P.length < 400) : mayB (P ++ [(P.length : Int)]) = true := by
 refine mayB_of (fun i hi => ?_) (by simp; omega)
 rw [getD_snoc]
 by_cases h : i < P.length
 ·rw [if_pos h]; exact mayB_at hm i h
 ·have : i = P.length := by simp at hi; omega
  rw [if_neg h, if_pos this]
  omega
theorem snoc_root (hm : mayB P = true) (hl : P.length < 400) : ∀ i, i < P.length → rootN (P ++ [(P.length : Int)]) i = rootN P i := by
 intro i
 induction i using Nat.strongRecOn with
 | _ i ih =>
  intro hi
  have hb := mayB_at hm i hi
  rw [rootN_step P hm i hi, rootN_step _ (snoc_may hm hl) i (by simp; omega), getD_snoc, if_pos hi]
  by_cases he : P.getD i 0 = (i : Int)
  ·rw [if_pos he, if_pos he]
  ·rw [if_neg he, if_neg he]
   exact ih _ (by omega) (by omega)
theorem snoc_last (hm : mayB P = true) (hl : P.length < 400) : findS (P ++ [(P.length : Int)]) (P.length : Int) = (P.length : Int) := by
 rw [find_in (snoc_may hm hl) (inB_iff.2 ⟨by omega, by simp; omega⟩), Int.toNat_natCast, rootN_of_fix (snoc_may hm hl) (by simp) (by rw [getD_snoc, if_neg (by omega), if_pos rfl])]
theorem snoc_wider (hm : mayB P = true) (hl : P.length < 400) : Wider P (P ++ [(P.length : Int)]) := by
 have hin : ∀ g, inB P g = true → inB (P ++ [(P.length : Int)]) g = true := fun g hg => by
  have := inB_iff.1 hg
  exact inB_iff.2 ⟨this.1, by simp; omega⟩
 refine ⟨snoc_may hm hl, fun g hg => ?_, hin⟩
 rw [find_in hm hg, find_in (snoc_may hm hl) (hin g hg), snoc_root hm hl _ (inB_nat hg)]
theorem new_may {N : List S48} {G : List Int} {n : S48} {g : Int} (h : mayMB N G P = true) (w : Wider P P') (hn : nodeB P n = true) (hg : inB P' g = true) (hl : N.length < 400) (hno : ∀ i, i < N.length → canonS (rootsS P) (N.getD i z48) ≠ canonS (rootsS P) n) : mayMB (N ++ [n]) (G ++ [g]) P' = true := by
 have hG := may_lenG h
 have hm := may_P h
 refine mayM_iff.2 ⟨form_of w.may (by simp; exact hG) (by simp; omega) (fun i hi => ?_) (fun i hi => ?_), fun i k hi hk he => ?_⟩
 ·rw [getD_snoc]
  by_cases h1 : i < G.length
  ·rw [if_pos h1]; exact w.inb _ (form_G (may_form h) (by omega))
  ·rw [if_neg h1, if_pos (by simp at hi; omega)]; exact hg
 ·rw [getD_snoc]
  by_cases h1 : i < N.length
  ·rw [if_pos h1]; exact w.node (form_N (may_form h) h1)
  ·rw [if_neg h1, if_pos (by simp at hi; omega)]; exact w.node hn
 ·simp only [List.length_append, List.length_singleton] at hi hk
  rw [getD_snoc, getD_snoc] at he
  rw [getD_snoc, getD_snoc, hG]
  by_cases h1 : i < N.length
  ·by_cases h2 : k < N.length
   ·rw [if_pos h1, if_pos h2] at he ⊢
    rw [w.canon hm (form_N (may_form h) h1), w.canon hm (form_N (may_form h) h2)] at he
    rw [w.find _ (form_G (may_form h) h1), w.find _ (form_G (may_form h) h2)]
    exact may_closed h i k h1 h2 he
   ·rw [if_pos h1, if_neg h2, if_pos (by omega), w.canon hm (form_N (may_form h) h1), w.canon hm hn] at he
    exact absurd he (hno i h1)
  ·by_cases h2 : k < N.length
   ·rw [if_neg h1, if_pos (by omega), if_pos h2, w.canon hm (form_N (may_form h) h2), w.canon hm hn] at he
    exact absurd he.symm (hno k h2)
   ·rw [if_neg h1, if_neg h2, if_pos (by omega), if_pos (by omega)]
end
inductive PutC (N : List S48) (G P : List Int) (n : S48) (g : Int) : List S48 × List Int × List Int × Int × Int → Prop
 | bad (h : mayMB N G P = false ∨ nodeB P n = false ∨ (g ≠ -1 ∧ inB P g = false)) : PutC N G P n g (N, G, P, -1, 1)
 | has (h : mayMB N G P = true) (hn : nodeB P n = true) (i : Nat) (hi : i < N.length) (hc : canonS (rootsS P) (N.getD i z48) = canonS (rootsS P) n) (hg : g = -1 ∨ inB P g = true ∧ findS P g = findS P (G.getD i 0)) : PutC N G P n g (N, G, P, findS P (G.getD i 0), 0)
 | merge (hn : nodeB P n = true) (i : Nat) (hi : i < N.length) (hc : canonS (rootsS P) (N.getD i z48) = canonS (rootsS P) n) (hg : g ≠ -1) (h : Mer N G P g (findS P (G.getD i 0))) : PutC N G P n g (N, G, mergeP N G P g (findS P (G.getD i 0)), findS (mergeP N G P g (findS P (G.getD i 0))) g, 0)
 | full (h : mayMB N G P = true) (hf : N.length = 400 ∨ g = -1 ∧ P.length = 400) : PutC N G P n g (N, G, P, -1, 3)
 | own (h : mayMB N G P = true) (hn : nodeB P n = true) (hno : ∀ i, i < N.length → canonS (rootsS P) (N.getD i z48) ≠ canonS (rootsS P) n) (hl : N.length < 400) (hp : P.length < 400) (hg : g = -1) : PutC N G P n g (N ++ [n], G ++ [(P.length : Int)], P ++ [(P.length : Int)], (P.length : Int), 0)
 | new (h : mayMB N G P = true) (hn : nodeB P n = true) (hno : ∀ i, i < N.length → canonS (rootsS P) (N.getD i z48) ≠ canonS (rootsS P) n) (hl : N.length < 400) (hg : g ≠ -1) (hb : inB P g = true) : PutC N G P n g (N ++ [n], G ++ [g], P, findS P g, 0)
theorem put_cases (N : List S48) (G P : List Int) (n : S48) (g : Int) : PutC N G P n g (putT N G P n g) := by
 unfold putT
 by_cases hc : (mayMB N G P && (nodeB P n && (decide (g = -1) || inB P g))) = true
 ·rw [if_pos hc]
  simp only [Bool.and_eq_true, Bool.or_eq_true, decide_eq_true_eq] at hc
  obtain ⟨hm, hn, hg⟩ := hc
  rcases look_cases N G P n with ⟨h1, h2⟩ | ⟨_, _, i, hi, hcn, h1⟩
  ·rw [h1]
   simp only [Bool.false_eq_true, if_false]
   have hlN := may_lenN hm
   have hlP := may_lenP hm
   by_cases hf : N.length = 400 ∨ g = -1 ∧ P.length = 400
   ·rw [if_pos hf]; exact .full hm hf
   ·rw [if_neg hf]
    by_cases hg1 : g = -1
    ·rw [if_pos hg1, snoc_last (may_P hm) (by omega)]
     exact .own hm hn (h2 hm hn) (by omega) (by omega) hg1
    ·rw [if_neg hg1]
     exact .new hm hn (h2 hm hn) (by omega) hg1 (by rcases hg with h | h; exact absurd h hg1; exact h)
  ·rw [h1]
   simp only [if_true]
   by_cases he : g = -1 ∨ findS P g = findS P (G.getD i 0)
   ·rw [if_pos he]
    refine .has hm hn i hi hcn ?_
    rcases hg with h | h
    ·exact .inl h
    ·rcases he with h' | h'
     ·exact .inl h'
     ·exact .inr ⟨h, h'⟩
   ·rw [if_neg he]
    have hg1 : g ≠ -1 := fun h => he (.inl h)
    have hb : inB P g = true := by rcases hg with h | h; exact absurd h hg1; exact h
    have hM : Mer N G P g (findS P (G.getD i 0)) := ⟨hm, hb, (find_bd (may_P hm) (form_G (may_form hm) hi)).1⟩
    rw [hM.eq]
    exact .merge hn i hi hcn hg1 hM
 ·rw [if_neg hc]
  refine .bad ?_
  cases hm : mayMB N G P with
  | false => exact .inl rfl
  | true =>
   cases hn : nodeB P n with
   | false => exact .inr (.inl rfl)
   | true =>
    rw [hm, hn] at hc
    simp only [Bool.true_and, Bool.or_eq_true, decide_eq_true_eq, not_or, Bool.not_eq_true] at hc
    exact .inr (.inr hc)
theorem PutC.after {N : List S48} {G P : List Int} {n : S48} {g : Int} {N' : List S48} {G' P' : List Int} {h e : Int} (c : PutC N G P n g (N', G', P', h, e)) (hm : mayMB N G P = true) : mayMB N' G' P' = true := by
 cases c with
 | bad _ => exact hm
 | has _ _ _ _ _ _ => exact hm
 | merge _ _ _ _ _ h => exact h.after
 | full _ _ => exact hm
 | own h hn hno hl hp hg => exact new_may h (snoc_wider (may_P h) hp) hn (inB_iff.2 ⟨by omega, by simp; omega⟩) hl hno
 | new h hn hno hl hg hb => exact new_may h (Wider.refl (may_P h)) hn hb hl hno
structure PutOk (N : List S48) (G P : List Int) (n : S48) (g : Int) (N' : List S48) (G' P' : List Int) (h : Int) : Prop where
 was : mayMB N G P = true
 may : mayMB N' G' P' = true
 node : nodeB P' n = true
 at_ : ∃ i, i < N'.length ∧ canonS (rootsS P') (N'.getD i z48) = canonS (rootsS P') n ∧ h = findS P' (G'.getD i 0)
 grp : g = -1 ∨ inB P' g = true ∧ findS P' g = h
 n0 : N.length ≤ N'.length
 n1 : N'.length ≤ N.length + 1
 p0 : P.length ≤ P'.length
 p1 : P'.length ≤ P.length + 1
 ns : ∀ j, j < N.length → N'.getD j z48 = N.getD j z48
 gs : ∀ j, j < N.length → G'.getD j 0 = G.getD j 0
 one : ∀ a b, inB P a = true → inB P b = true → findS P a = findS P b → findS P' a = findS P' b
theorem PutC.ok {N : List S48} {G P : List Int} {n : S48} {g : Int} {r : List S48 × List Int × List Int × Int × Int} (c : PutC N G P n g r) (he : r.2.2.2.2 = 0) : PutOk N G P n g r.1 r.2.1 r.2.2.1 r.2.2.2.1 := by
 cases c with
 | bad _ => exact absurd (show (1 : Int) = 0 from he) (by decide)
 | full _ _ => exact absurd (show (3 : Int) = 0 from he) (by decide)
 | has h hn i hi hc hg => exact ⟨h, h, hn, ⟨i, hi, hc, rfl⟩, hg, Nat.le_refl _, Nat.le_succ _, Nat.le_refl _, Nat.le_succ _, fun _ _ => rfl, fun _ _ => rfl, fun _ _ _ _ h => h⟩
 | merge hn i hi hc hg h =>
  have hin := form_G (may_form h.may) hi
  have hP := may_P h.may
  refine ⟨h.may, h.after, by rw [node_len h.len]; exact hn, ⟨i, hi, canon_le hP h.spec.may h.spec.le (form_N (may_form h.may) hi) hn hc, ?_⟩, .inr ⟨by rw [h.inB]; exact h.a, rfl⟩, Nat.le_refl _, Nat.le_succ _, Nat.le_of_eq h.len.symm, by have := h.len; dsimp only; omega, fun _ _ => rfl, fun _ _ => rfl, fun a b ha hb e => h.spec.le.same hP h.spec.may ha hb e⟩
  show findS _ g = _
  rw [h.spec.two, h.find hin]
 | own h hn hno hl hp hg =>
  have w := snoc_wider (may_P h) hp
  have hG := may_lenG h
  refine ⟨h, new_may h w hn (inB_iff.2 ⟨by omega, by simp; omega⟩) hl hno, w.node hn, ⟨N.length, by simp, by rw [getD_snoc, if_neg (by omega), if_pos rfl], ?_⟩, .inl hg, by simp, by simp, by simp, by simp, fun j hj => by rw [getD_snoc, if_pos hj], fun j hj => by rw [getD_snoc, if_pos (by omega)], fun a b ha hb e => by rw [w.find a ha, w.find b hb]; exact e⟩
  rw [getD_snoc, if_neg (by omega), if_pos hG.symm, snoc_last (may_P h) hp]
 | new h hn hno hl hg hb =>
  have hG := may_lenG h
  refine ⟨h, new_may h (Wider.refl (may_P h)) hn hb hl hno, hn, ⟨N.length, by simp, by rw [getD_snoc, if_neg (by omega), if_pos rfl], ?_⟩, .inr ⟨hb, rfl⟩, by simp, by simp, Nat.le_refl _, Nat.le_succ _, fun j hj => by rw [getD_snoc, if_pos hj], fun j hj => by rw [getD_snoc, if_pos (by omega)], fun _ _ _ _ e => e⟩
  rw [getD_snoc, if_neg (by omega), if_pos hG.symm]
theorem PutC.no {N : List S48} {G P : List Int} {n : S48} {g : Int} {r : List S48 × List Int × List Int × Int × Int} (c : PutC N G P n g r) (he : r.2.2.2.2 ≠ 0) : r.2.2.2.1 = -1 ∧ r.1 = N ∧ r.2.1 = G ∧ r.2.2.1 = P := by
 cases c with
 | bad _ => exact ⟨rfl, rfl, rfl, rfl⟩
 | full _ _ => exact ⟨rfl, rfl, rfl, rfl⟩
 | has _ _ _ _ _ _ => exact absurd rfl he
 | merge _ _ _ _ _ _ => exact absurd rfl he
 | own _ _ _ _ _ _ => exact absurd rfl he
 | new _ _ _ _ _ _ => exact absurd rfl he
section
variable {N : List S48} {G P : List Int} {n : S48} {g : Int} {N' : List S48} {G' P' : List Int} {h : Int}
end
end Go.Proofs.Ytkidnomkfdnciaa.All
namespace Go.Proofs.Ytkidnomkfdnciaa.All
open Go.RowKit Go.Proofs.YtkidnomkfdnciaaW.PrintWords Go.Proofs.YtkidnomkfdnciaaW.PrintLast Go.Proofs.YtkidnomkfdnciaaW.PrintMore
attribute [local go_sem] QR.Oq QR.Yq QR.Cls
set_option linter.unusedVariables false
set_option linter.unusedSimpArgs false
section
variable {w : World} {AN AG AP : Option Addr} {cN cG cP : Nat} {N : List S48} {G P : List Int}
set_option maxHeartbeats 8000000 in
set_option maxRecDepth 100000 in
theorem rmay_no (h : MemoAt w AN cN N AG cG G AP cP P) (hno : mayB P = false ∨ mayB P = true ∧ (G.length ≠ N.length ∨ G.length = N.length ∧ 400 < N.length)) : Calls Try.prog 52 #[.agg #[.slice AN N.length cN, .slice AG G.length cG, .slice AP P.length cP]] w fun e w' => e = .returned (.bool false) ∧ Below w.heap.size w w' := by
 have hb := below_alloc (Below.refl w.heap.size w) (.cells #[.slice AN N.length cN, .slice AG G.length cG, .slice AP P.length cP] 38)
 have HB := Aside0.mk hb
 have HX := Aside0.mk (box_new w AN cN N AG cG G AP cP P)
 have HM := Aside0.mk (may15_at (h.below hb).p (h.below hb).pc)
 have hm1 := h.n.2.1
 have hm2 := h.g.2.1
 clear h hb
 obtain ⟨vm, hvm⟩ : ∃ v, v = mayB P := ⟨_, rfl⟩
 rw [← hvm] at HM hno
 clear hvm
 rcases hno with rfl | ⟨rfl, h1 | ⟨h1, h2⟩⟩
 ·go_enter Try.func52, Try.ntmps52
  go_wp2_with (go_at_call 31; refine HM.out.mono ?_; rintro e w1 ⟨rfl, hd⟩; have HB1 := Aside0.mk hd.below; clear hd)
  go_ret
  exact ⟨rfl, below_then HB.out HB.out.size HB1.out⟩
 ·have e1 : ((G.length : Int) != (N.length : Int)) = true := by rw [bne_iff_ne]; omega
  go_enter Try.func52, Try.ntmps52
  go_wp2_with (go_at_call 31; refine HM.out.mono ?_; rintro e w1 ⟨rfl, hd⟩; have HB1 := Aside0.mk hd.below; obtain ⟨ha0, ha1, ha2⟩ := (HX.out.below hd.below).cells; clear hd)
  go_ret
  exact ⟨rfl, below_then HB.out HB.out.size HB1.out⟩
 ·have e1 : ((G.length : Int) != (N.length : Int)) = false := by rw [bne_eq_false_iff_eq]; omega
  clear h1
  go_enter Try.func52, Try.ntmps52
  go_wp2_with (go_at_call 31; refine HM.out.mono ?_; rintro e w1 ⟨rfl, hd⟩; have HB1 := Aside0.mk hd.below; obtain ⟨ha0, ha1, ha2⟩ := (HX.out.below hd.below).cells; clear hd)
  go_ret
  exact ⟨rfl, below_then HB.out HB.out.size HB1.out⟩
theorem may_open (hf : formB N G P = true) : mayMB N G P = decide ((openS N G P).1 < 0) := by
 unfold mayMB openS
 rw [hf, Bool.true_and]
 cases hc : confS N G P with
 | none => rfl
 | some p =>
  obtain ⟨x, y⟩ := p
  have := inB_iff.1 (conf_some hf hc).1
  symm
  show decide (x < 0) = false
  exact decide_eq_false (by omega)
theorem may_not (k : Nat) (hk : k < N.length) (hl : G.length = N.length) (h : nodeB P (N.getD k z48) = false ∨ inB P (G.getD k 0) = false) : mayMB N G P = false := by
 cases hm : mayMB N G P with
 | false => rfl
 | true =>
  have hf := may_form hm
  rcases h with h | h
  ·rw [form_N hf hk] at h; cases h
  ·rw [form_G hf hk] at h; cases h
set_option maxHeartbeats 16000000 in
set_option maxRecDepth 100000 in
theorem rmay_yes (h : MemoAt w AN cN N AG cG G AP cP P) (h1 : mayB P = true) (h2 : G.length = N.length) (h3 : N.length ≤ 400) : Calls Try.prog 52 #[.agg #[.slice AN N.length cN, .slice AG G.length cG, .slice AP P.length cP]] w fun e w' => e = .returned (.bool (mayMB N G P)) ∧ Below w.heap.size w w' := by
 have hb := below_alloc (Below.refl w.heap.size w) (.cells #[.slice AN N.length cN, .slice AG G.length cG, .slice AP P.length cP] 38)
 have HB := Aside0.mk hb
 have HX := Aside0.mk (box_new w AN cN N AG cG G AP cP P)
 have HM := Aside0.mk (may15_at (h.below hb).p (h.below hb).pc)
 have HH := Aside0.mk (h.below hb)
 have HN := Aside0.mk (fun (W : World) (x : S48) (h : MemoAt W AN cN N AG cG G AP cP P) => rnode_at x h)
 have HO := Aside0.mk (fun (W : World) (h : MemoAt W AN cN N AG cG G AP cP P) (hf : formB N G P = true) => ropen_at h hf)
 rw [h1] at HM
 have H1 := Aside0.mk h1
 have H2 := Aside0.mk h2
 have e1 : ((G.length : Int) != (N.length : Int)) = false := by rw [bne_eq_false_iff_eq]; omega
 obtain ⟨v, hv⟩ : ∃ v, v = mayMB N G P := ⟨_, rfl⟩
 rw [← hv]
 have HV := Aside0.mk hv
 clear h hb h1 h2 hv
 go_enter Try.func52, Try.ntmps52
 go_wp2_with (go_at_call 31; refine HM.out.mono ?_; rintro e w1 ⟨rfl, hd⟩; have HB1 := Aside0.mk hd.below; obtain ⟨ha0, ha1, ha2⟩ := (HX.out.below hd.below).cells; clear hd)
 go_loopw [4] (fun i wr => ∃ k : Nat, k ≤ N.length ∧ i = .int .i64 k ∧ Aside0 (∀ q, q < k → nodeB P (N.getD q z48) = true ∧ inB P (G.getD q 0) = true) ∧ Aside0 (Below (w.alloc (.cells #[.slice AN N.length cN, .slice AG G.length cG, .slice AP P.length cP] 38)).heap.size (w.alloc (.cells #[.slice AN N.length cN, .slice AG G.length cG, .slice AP P.length cP] 38)) wr)) (fun i _ => N.length - (intOf i).toNat)
 case atStart => exact ⟨0, Nat.zero_le _, rfl, ⟨fun q hq => absurd hq (Nat.not_lt_zero _)⟩, HB1⟩
 case round =>
  clear ha0 ha1 ha2
  obtain ⟨k, hk, rfl, HQ, HL⟩ := hrel
  obtain ⟨hc0, hc1, hc2⟩ := (HX.out.below HL.out).cells
  by_cases hlt : k < N.length
  ·obtain ⟨ad, eA, hd0, hd1, hd2, hd3⟩ := at_T48 (HH.out.below HL.out).n (k : Int) (by omega) (by omega)
   subst eA
   obtain ⟨x, hx⟩ : ∃ x, x = N.getD k z48 := ⟨_, rfl⟩
   rw [Int.toNat_natCast, show rd_T48 N (k : Int) = x from by rw [hx]; simp [rd_T48]] at hd0 hd1 hd2 hd3
   obtain ⟨nb, hnb⟩ : ∃ b, b = nodeB P x := ⟨_, rfl⟩
   have HNB := Aside0.mk (show nodeB P (N.getD k z48) = nb by rw [← hx, hnb])
   have cN' := fun d os => QR.bel (HN.out (Go.Sort.grow (redrawn wr d) os) x ((HH.out.below HL.out).below (below_regrown wr d os)))
   rw [← hnb] at cN'
   clear hnb hx
   go_wp2
   have p0 := fun d os => cell_regrown hc0 d os
   have p1 := fun d os => cell_regrown hc1 d os
   have p2 := fun d os => cell_regrown hc2 d os
   have q0 := fun d os => cell_regrown hd0 d os
   have q1 := fun d os => cell_regrown hd1 d os
   have q2 := fun d os => cell_regrown hd2 d os
   have q3 := fun d os => cell_regrown hd3 d os
   refine QR.region_all (by first | assumption | kernel_rfl) (by kernel_rfl) ?_
   repeat (refine QR.txt_step (fun K hK => ?_); have HK := Aside0.mk hK; clear hK; go_simp; first | (refine HK.out _ ?_; clear HK K) | (apply Exists.intro; refine ⟨fun _ => ?_, HK.out _ ?_⟩; (with_reducible exact cN' _ _); clear HK K))
   refine QR.txt_nil ?_
   intro w2 hw2
   have HW := Aside0.mk (HL.out.trans (hw2.below.mono HL.out.size))
   clear p0 p1 p2 q0 q1 q2 q3 cN' hw2 hc0 hc1 hc2 hd0 hd1 hd2 hd3
   go_wp2
   obtain ⟨aG, eG, hg⟩ := Kd.at_int (HH.out.below HW.out).g (k : Int) (by omega) (by have := H2.out; omega)
   subst eG
   obtain ⟨gk, hgk⟩ : ∃ x, x = rd G (k : Int) := ⟨_, rfl⟩
   rw [← hgk, Int.toNat_natCast] at hg
   have HGK := Aside0.mk (show G.getD k 0 = gk by rw [hgk, rd, Int.toNat_natCast])
   obtain ⟨hc0, hc1, hc2⟩ := (HX.out.below HW.out).cells
   have l0 : (0 : Int) ≤ (k : Int) := by omega
   have l1 : (k : Int) < G.length := by have := H2.out; omega
   have p1 := fun d os => cell_regrown hc1 d os
   have p2 := fun d os => cell_regrown hc2 d os
   have q0 := fun d os => cell_regrown hg d os
   clear hgk hc0 hc1 hc2 hg
   cases nb with
   | false =>
    have HVF := Aside0.mk (HV.out.trans (may_not k hlt H2.out (.inl HNB.out)))
    refine QR.region_all (by first | assumption | kernel_rfl) (by kernel_rfl) ?_
    repeat (refine QR.txt_step (fun K hK => ?_); have HK := Aside0.mk hK; clear hK; go_simp; first | (refine HK.out _ ?_; clear HK K) | (apply Exists.intro; refine ⟨fun _ => ?_, HK.out _ ?_⟩; (fail); clear HK K))
    refine QR.txt_nil ?_
    intro w3 hw3
    have HW3 := Aside0.mk (HW.out.trans (hw3.below.mono HW.out.size))
    clear hw3
    go_wp2
    go_ret
    exact ⟨by rw [HVF.out]; rfl, below_then HB.out HB.out.size HW3.out⟩
   | true =>
    by_cases g0 : gk < 0
    ·have HVF := Aside0.mk (HV.out.trans (may_not k hlt H2.out (.inr (by rw [HGK.out]; unfold inB; rw [decide_eq_false (by omega)]; rfl))))
     have e2 : decide (gk < 0) = true := decide_eq_true g0
     refine QR.region_all (by first | assumption | kernel_rfl) (by kernel_rfl) ?_
     repeat (refine QR.txt_step (fun K hK => ?_); have HK := Aside0.mk hK; clear hK; go_simp; first | (refine HK.out _ ?_; clear HK K) | (apply Exists.intro; refine ⟨fun _ => ?_, HK.out _ ?_⟩; (fail); clear HK K))
     refine QR.txt_nil ?_
     intro w3 hw3
     have HW3 := Aside0.mk (HW.out.trans (hw3.below.mono HW.out.size))
     clear hw3
     go_wp2
     go_ret
     exact ⟨by rw [HVF.out]; rfl, below_then HB.out HB.out.size HW3.out⟩
    ·by_cases g1 : gk < (P.length : Int)
     ·have HQN := Aside0.mk (show ∀ q, q < k + 1 → nodeB P (N.getD q z48) = true ∧ inB P (G.getD q 0) = true from fun q hq => by
       by_cases e : q < k
       ·exact HQ.out q e
       ·obtain rfl : q = k := by omega
        exact ⟨HNB.out, by rw [HGK.out]; exact inB_iff.2 ⟨by omega, g1⟩⟩)
      have e2 : decide (gk < 0) = false := decide_eq_false g0
      have e3 : decide ((P.length : Int) ≤ gk) = false := decide_eq_false (by omega)
      have g2 : ¬ (P.length : Int) ≤ gk := by omega
      refine QR.region_all (by first | assumption | kernel_rfl) (by kernel_rfl) ?_
      repeat (refine QR.txt_step (fun K hK => ?_); have HK := Aside0.mk hK; clear hK; go_simp; first | (refine HK.out _ ?_; clear HK K) | (apply Exists.intro; refine ⟨fun _ => ?_, HK.out _ ?_⟩; (fail); clear HK K))
      refine QR.txt_nil ?_
      intro w3 hw3
      have HW3 := Aside0.mk (HW.out.trans (hw3.below.mono HW.out.size))
      clear hw3
      go_wp2
      go_roundw
      case rel => exact ⟨k + 1, by omega, by go_num, HQN, HW3⟩
      case measure => simp [intOf]; omega
     ·have HVF := Aside0.mk (HV.out.trans (may_not k hlt H2.out (.inr (by rw [HGK.out]; unfold inB; rw [decide_eq_false g1, Bool.and_false]))))
      have e2 : decide (gk < 0) = false := decide_eq_false g0
      have e3 : decide ((P.length : Int) ≤ gk) = true := decide_eq_true (by omega)
      have g2 : (P.length : Int) ≤ gk := by omega
      refine QR.region_all (by first | assumption | kernel_rfl) (by kernel_rfl) ?_
      repeat (refine QR.txt_step (fun K hK => ?_); have HK := Aside0.mk hK; clear hK; go_simp; first | (refine HK.out _ ?_; clear HK K) | (apply Exists.intro; refine ⟨fun _ => ?_, HK.out _ ?_⟩; (fail); clear HK K))
      refine QR.txt_nil ?_
      intro w3 hw3
      have HW3 := Aside0.mk (HW.out.trans (hw3.below.mono HW.out.size))
      clear hw3
      go_wp2
      go_ret
      exact ⟨by rw [HVF.out]; rfl, below_then HB.out HB.out.size HW3.out⟩
  ·obtain rfl : k = N.length := by omega
   have hf : formB N G P = true := form_of H1.out H2.out h3 (fun i hi => (HQ.out i (by have := H2.out; omega)).2) (fun i hi => (HQ.out i hi).1)
   have HOC := Aside0.mk (HO.out _ (HH.out.below HL.out) hf)
   obtain ⟨o, ho⟩ : ∃ o, o = openS N G P := ⟨_, rfl⟩
   rw [← ho] at HOC
   have HVO := Aside0.mk (show v = decide (o.1 < 0) by rw [HV.out, may_open hf, ho])
   clear hf ho
   go_wp2_with (go_at_call 82; refine HOC.out.mono ?_; rintro e w2 ⟨rfl, hb2⟩; have HB2 := Aside0.mk (HL.out.trans (hb2.mono HL.out.size)); clear hb2)
   go_ret
   exact ⟨by rw [HVO.out]; rfl, below_then HB.out HB.out.size HB2.out⟩
theorem rmay_at (h : MemoAt w AN cN N AG cG G AP cP P) : Calls Try.prog 52 #[.agg #[.slice AN N.length cN, .slice AG G.length cG, .slice AP P.length cP]] w fun e w' => e = .returned (.bool (mayMB N G P)) ∧ Below w.heap.size w w' := by
 have no : (mayB P = false ∨ mayB P = true ∧ (G.length ≠ N.length ∨ G.length = N.length ∧ 400 < N.length)) → mayMB N G P = false := fun hno => by
  cases hm : mayMB N G P with
  | false => rfl
  | true =>
   rcases hno with h | ⟨_, h | ⟨_, h⟩⟩
   ·rw [may_P hm] at h; cases h
   ·exact absurd (may_lenG hm) h
   ·have := may_lenN hm; omega
 cases h1 : mayB P with
 | false => rw [no (.inl h1)]; exact rmay_no h (.inl h1)
 | true =>
  by_cases h2 : G.length = N.length
  ·by_cases h3 : N.length ≤ 400
   ·exact rmay_yes h h1 h2 h3
   ·have hn : mayB P = false ∨ mayB P = true ∧ (G.length ≠ N.length ∨ G.length = N.length ∧ 400 < N.length) := .inr ⟨h1, .inr ⟨h2, by omega⟩⟩
    rw [no hn]; exact rmay_no h hn
  ·have hn : mayB P = false ∨ mayB P = true ∧ (G.length ≠ N.length ∨ G.length = N.length ∧ 400 < N.length) := .inr ⟨h1, .inl h2⟩
   rw [no hn]; exact rmay_no h hn
set_option maxHeartbeats 8000000 in
set_option maxRecDepth 100000 in
theorem rlook_no (n : S48) (h : MemoAt w AN cN N AG cG G AP cP P) (hno : mayMB N G P = false ∨ mayMB N G P = true ∧ nodeB P n = false) : Calls Try.prog 51 #[.agg #[.slice AN N.length cN, .slice AG G.length cG, .slice AP P.length cP], .agg #[.bool n.f0, .int .i64 n.f1, .int .i64 n.f2, .int .i64 n.f3]] w fun e w' => e = .returned (.tuple #[.int .i64 (-1), .bool false]) ∧ Below w.heap.size w w' := by
 obtain ⟨hx, hy, hb⟩ := box2_new w AN cN N AG cG G AP cP P n
 have HB := Aside0.mk hb
 have HX := Aside0.mk hx
 have HY := Aside0.mk (show NBox _ _ n from hy)
 have HM := Aside0.mk (rmay_at (h.below hb))
 have HN := Aside0.mk (fun (W : World) (h : MemoAt W AN cN N AG cG G AP cP P) => rnode_at n h)
 have HH := Aside0.mk (h.below hb)
 clear h hb hx hy
 rcases hno with h1 | ⟨h1, h2⟩
 all_goals
  rw [h1] at HM
  try rw [h2] at HN
  obtain ⟨vn, hvn⟩ : ∃ v, v = nodeB P n := ⟨_, rfl⟩
  try rw [← hvn] at HN
  clear hvn h1
  try clear h2
  go_enter Try.func51, Try.ntmps51
  go_wp2_with (first | (go_at_call 52; refine HM.out.mono ?_; rintro e w1 ⟨rfl, hb1⟩; have HB1 := Aside0.mk hb1; obtain ⟨ha0, ha1, ha2⟩ := (HX.out.below hb1).cells; obtain ⟨hy0, hy1, hy2, hy3⟩ := (HY.out.below hb1).cells; clear hb1) | (go_at_call 81; refine (HN.out _ (HH.out.below HB1.out)).mono ?_; rintro e w2 ⟨rfl, hb2⟩; have HB2 := Aside0.mk (HB1.out.trans (hb2.mono HB1.out.size)); clear hb2))
  go_ret2
  exact ⟨rfl, below_then HB.out HB.out.size HB2.out⟩
set_option maxHeartbeats 16000000 in
set_option maxRecDepth 100000 in
theorem rlook_yes (n : S48) (h : MemoAt w AN cN N AG cG G AP cP P) (h1 : mayMB N G P = true) (h2 : nodeB P n = true) : Calls Try.prog 51 #[.agg #[.slice AN N.length cN, .slice AG G.length cG, .slice AP P.length cP], .agg #[.bool n.f0, .int .i64 n.f1, .int .i64 n.f2, .int .i64 n.f3]] w fun e w' => e = .returned (.tuple #[.int .i64 (lookS N G P n).1, .bool (lookS N G P n).2]) ∧ Below w.heap.size w w' := by
 obtain ⟨hx, hy, hb⟩ := box2_new w AN cN N AG cG G AP cP P n
 have hm := may_P h1
 have hf := may_form h1
 have HB := Aside0.mk hb
 have HX := Aside0.mk hx
 have HY := Aside0.mk (show NBox _ _ n from hy)
 have HM := Aside0.mk (rmay_at (h.below hb))
 have HN := Aside0.mk (fun (W : World) (h : MemoAt W AN cN N AG cG G AP cP P) => rnode_at n h)
 have HH := Aside0.mk (h.below hb)
 rw [h1] at HM
 rw [h2] at HN
 have HGN := Aside0.mk (may_lenG h1)
 have HCc := Aside0.mk (fun (W : World) (h : MemoAt W AN cN N AG cG G AP cP P) => rcanon_at n h)
 have hC : CanonS N G P n = canonS (rootsS P) n := by unfold CanonS; rw [hm, h2]; rfl
 rw [hC] at HCc
 have HPL := Aside0.mk (fun (W : World) (x : S48) (h : MemoAt W AN cN N AG cG G AP cP P) => rplace_at x (canonsS N P) h (fun k hk => by unfold CanonS; rw [hm, form_N hf hk, canons_at N P hk]; rfl))
 have HFI := Aside0.mk (fun (W : World) (g : Int) (h : MemoAt W AN cN N AG cG G AP cP P) => rfind_at g h)
 obtain ⟨c, hc⟩ : ∃ c, c = canonS (rootsS P) n := ⟨_, rfl⟩
 rw [← hc] at HCc
 obtain ⟨⟨r1, r2⟩, hr⟩ : ∃ r, r = lookS N G P n := ⟨_, rfl⟩
 rw [← hr]
 have HR := Aside0.mk (show (r1, r2) = (match posN (canonsS N P) c N.length with
  | none => (-1, false)
  | some i => (findS P (G.getD i 0), true)) by
  rw [hr]; unfold lookS; rw [h1, h2, hc]; rfl)
 obtain ⟨p, hp⟩ : ∃ p, p = placeS (canonsS N P) c N.length := ⟨_, rfl⟩
 have HPC := Aside0.mk (fun (W : World) (h : MemoAt W AN cN N AG cG G AP cP P) => HPL.out W c h)
 rw [← hp] at HPC
 have HP := Aside0.mk hp
 clear h hb hx hy h1 h2 hm hf hC hc hr hp HPL
 go_enter Try.func51, Try.ntmps51
 go_wp2_with (first | (go_at_call 52; refine HM.out.mono ?_; rintro e w1 ⟨rfl, hb1⟩; have HB1 := Aside0.mk hb1; obtain ⟨ha0, ha1, ha2⟩ := (HX.out.below hb1).cells; obtain ⟨hy0, hy1, hy2, hy3⟩ := (HY.out.below hb1).cells; clear hb1) | (go_at_call 81; refine (HN.out _ (HH.out.below HB1.out)).mono ?_; rintro e w2 ⟨rfl, hb2⟩; have HB2 := Aside0.mk (HB1.out.trans (hb2.mono HB1.out.size)); clear hb2))
 clear ha0 ha1 ha2 hy0 hy1 hy2 hy3
 obtain ⟨ha0, ha1, ha2⟩ := (HX.out.below HB2.out).cells
 obtain ⟨hy0, hy1, hy2, hy3⟩ := (HY.out.below HB2.out).cells
 have p0 := fun d os => cell_regrown ha0 d os
 have p1 := fun d os => cell_regrown ha1 d os
 have p2 := fun d os => cell_regrown ha2 d os
 have q0 := fun d os => cell_regrown hy0 d os
 have q1 := fun d os => cell_regrown hy1 d os
 have q2 := fun d os => cell_regrown hy2 d os
 have q3 := fun d os => cell_regrown hy3 d os
 have cC := fun d os => QR.bel (HCc.out (Go.Sort.grow (redrawn w2 d) os) ((HH.out.below HB2.out).below (below_regrown w2 d os)))
 have cP' := fun d os => QR.bel (HPC.out (Go.Sort.grow (redrawn w2 d) os) ((HH.out.below HB2.out).below (below_regrown w2 d os)))
 refine QR.region_all (by first | assumption | kernel_rfl) (by kernel_rfl) ?_
 repeat (refine QR.txt_step (fun K hK => ?_); have HK := Aside0.mk hK; clear hK; go_simp; first | (refine HK.out _ ?_; clear HK K) | (apply Exists.intro; refine ⟨fun _ => ?_, HK.out _ ?_⟩; (first | with_reducible exact cC _ _ | with_reducible exact cP' _ _); clear HK K))
 refine QR.txt_nil ?_
 intro w3 hw3
 have HB3 := Aside0.mk (HB2.out.trans (hw3.below.mono HB2.out.size))
 clear p0 p1 p2 q0 q1 q2 q3 cC cP' hw3 ha0 ha1 ha2 hy0 hy1 hy2 hy3
 cases hpo : posN (canonsS N P) c N.length with
 | none =>
  have hr := HR.out
  rw [hpo] at hr
  obtain ⟨e0, e1⟩ := Prod.mk.inj hr
  have hp : p = -1 := by rw [HP.out]; unfold placeS; rw [hpo]
  subst e0; subst e1; subst hp
  clear hr hpo
  go_wp2
  go_ret2
  exact ⟨rfl, below_then HB.out HB.out.size HB3.out⟩
 | some i =>
  have hr := HR.out
  rw [hpo] at hr
  obtain ⟨e0, e1⟩ := Prod.mk.inj hr
  have hp : p = (i : Int) := by rw [HP.out]; unfold placeS; rw [hpo]
  have hi := posN_lt _ _ _ _ hpo
  subst e1; subst hp
  obtain ⟨aG, eG, hg⟩ := Kd.at_int (HH.out.below HB3.out).g (i : Int) (by omega) (by have := HGN.out; omega)
  subst eG
  obtain ⟨gi, hgi⟩ : ∃ x, x = rd G (i : Int) := ⟨_, rfl⟩
  rw [← hgi, Int.toNat_natCast] at hg
  have l0 : (0 : Int) ≤ (i : Int) := by omega
  have l1 : (i : Int) < G.length := by have := HGN.out; omega
  have l2 : ¬ (i : Int) < 0 := by omega
  have HR1 := Aside0.mk (show findS P gi = r1 by rw [e0, hgi, rd, Int.toNat_natCast])
  clear hr hpo e0 hgi
  go_wp2
  obtain ⟨ha0, ha1, ha2⟩ := (HX.out.below HB3.out).cells
  have p0 := fun d os => cell_regrown ha0 d os
  have p1 := fun d os => cell_regrown ha1 d os
  have p2 := fun d os => cell_regrown ha2 d os
  have q0 := fun d os => cell_regrown hg d os
  have cF := fun d os => QR.bel (HFI.out (Go.Sort.grow (redrawn w3 d) os) gi ((HH.out.below HB3.out).below (below_regrown w3 d os)))
  rw [HR1.out] at cF
  refine QR.region_all (by first | assumption | kernel_rfl) (by kernel_rfl) ?_
  repeat (refine QR.txt_step (fun K hK => ?_); have HK := Aside0.mk hK; clear hK; go_simp; first | (refine HK.out _ ?_; clear HK K) | (apply Exists.intro; refine ⟨fun _ => ?_, HK.out _ ?_⟩; (with_reducible exact cF _ _); clear HK K))
  refine QR.txt_nil ?_
  intro w4 hw4
  have HB4 := Aside0.mk (HB3.out.trans (hw4.below.mono HB3.out.size))
  clear p0 p1 p2 q0 cF hw4
  go_wp2
  go_ret2
  exact ⟨rfl, below_then HB.out HB.out.size HB4.out⟩
theorem rlook_at (n : S48) (h : MemoAt w AN cN N AG cG G AP cP P) : Calls Try.prog 51 #[.agg #[.slice AN N.length cN, .slice AG G.length cG, .slice AP P.length cP], .agg #[.bool n.f0, .int .i64 n.f1, .int .i64 n.f2, .int .i64 n.f3]] w fun e w' => e = .returned (.tuple #[.int .i64 (lookS N G P n).1, .bool (lookS N G P n).2]) ∧ Below w.heap.size w w' := by
 cases h1 : mayMB N G P with
 | false =>
  have : lookS N G P n = (-1, false) := by unfold lookS; rw [h1]; rfl
  rw [this]
  exact rlook_no n h (.inl h1)
 | true =>
  cases h2 : nodeB P n with
  | false =>
   have : lookS N G P n = (-1, false) := by unfold lookS; rw [h1, h2]; rfl
   rw [this]
   exact rlook_no n h (.inr ⟨h1, h2⟩)
  | true => exact rlook_yes n h h1 h2
end
end Go.Proofs.Ytkidnomkfdnciaa.All
namespace Go.Proofs.Ytkidnomkfdnciaa.All
open Go.RowKit Go.Proofs.YtkidnomkfdnciaaW.PrintWords Go.Proofs.YtkidnomkfdnciaaW.PrintLast Go.Proofs.YtkidnomkfdnciaaW.PrintMore
attribute [local go_sem] QR.Oq QR.Yq QR.Cls
set_option linter.unusedVariables false
set_option linter.unusedSimpArgs false
section
variable {w : World} {A AN AG AP : Option Addr} {c cN cG cP : Nat} {p : List Int} {N : List S48} {G P : List Int}
theorem tell_k (p : List Int) (a b : Int) (k : Nat) (hp : p.length ≤ 4611686018427387904) (hk : 2 * p.length + 2 < k) : tellJoin.f k p a b = some (joinS p a b) := by
 unfold tellJoin.f joinS
 rw [find15_k p a k (by omega) (by omega), find15_k p b k (by omega) (by omega), Option.bind_some, Option.bind_some]
 have hpos : ∀ c, ¬ findS p c < 0 ↔ findS p c ≠ -1 := by
  intro c
  rcases findS_cases p c with ⟨h, _⟩ | ⟨_, _, _, h⟩ <;> rw [h] <;> omega
 by_cases h1 : findS p a = -1
 ·rw [if_pos h1, if_pos (by omega)]
 ·rw [if_neg h1, if_neg ((hpos a).2 h1)]
  by_cases h2 : findS p b = -1
  ·rw [if_pos h2, if_pos (by omega)]
  ·rw [if_neg h2, if_neg ((hpos b).2 h2), roots15_k p k (by omega) (by omega), Option.bind_some]
   have hm := (findS_nonneg h1).2
   rw [if_pos (by rw [rootsS_length p hm]; exact mayB_len hm)]
   congr 2
   apply List.map_congr_left
   intro r _
   unfold tellM
   by_cases c1 : r = max (findS p a) (findS p b)
   ·rw [if_pos c1, if_pos (by omega)]; split <;> omega
   ·rw [if_neg c1]
    by_cases c2 : r = findS p a ∨ r = findS p b
    ·rw [if_pos c2]; split <;> omega
    ·rw [if_neg c2]
theorem join15_hand (a b : Int) (h : Kd.C (Kd.int .i64) w A p.length p) (hc : p.length ≤ c) (hp : p.length ≤ 4611686018427387904) :
  Calls Try.prog 30 #[.slice A p.length c, .int .i64 a, .int .i64 b] w fun e w' => ∃ A' c', e = .returned (.tuple #[.slice A' (joinS p a b).1.length c', .bool (joinS p a b).2]) ∧ (joinS p a b).1.length ≤ c' ∧ Kd.C (Kd.int .i64) w' A' (joinS p a b).1.length (joinS p a b).1 ∧ Hand w.heap.size A p A' (joinS p a b).1 ∧ Below w.heap.size w w' :=
 tellJoin.hand (2 * p.length + 3) A c p a b _ _ w h hc (tell_k p a b _ hp (by omega))
theorem merge_open (hf : formB N G P = true) {k : Nat} {R : List Int} (h : (match confS N G P with
  | none => some P
  | some (a, b) => mergeO N G k P a b) = some R) : ((openS N G P).1 = -1 ∧ P = R) ∨ (inB P (openS N G P).1 = true ∧ inB P (openS N G P).2 = true ∧ mergeO N G k P (openS N G P).1 (openS N G P).2 = some R) := by
 unfold openS
 cases hc : confS N G P with
 | none => rw [hc] at h; exact .inl ⟨rfl, Option.some.inj h⟩
 | some xy =>
  obtain ⟨x, y⟩ := xy
  rw [hc] at h
  have := conf_some hf hc
  exact .inr ⟨this.1, this.2.1, h⟩
set_option maxHeartbeats 8000000 in
set_option maxRecDepth 100000 in
theorem rmerge_no (a b : Int) (h : MemoAt w AN cN N AG cG G AP cP P) (hno : mayMB N G P = false ∨ mayMB N G P = true ∧ (a < 0 ∨ 0 ≤ a ∧ (b < 0 ∨ 0 ≤ b ∧ ((P.length : Int) ≤ a ∨ a < (P.length : Int) ∧ (P.length : Int) ≤ b)))) :
  Calls Try.prog 50 #[.agg #[.slice AN N.length cN, .slice AG G.length cG, .slice AP P.length cP], .int .i64 a, .int .i64 b] w fun e w' => e = .returned (.tuple #[.agg #[.slice AN N.length cN, .slice AG G.length cG, .slice AP P.length cP], .int .i64 (-1), .int .i64 1]) ∧ Below w.heap.size w w' := by
 obtain ⟨hx, hz, hb⟩ := res_new w AN cN N AG cG G AP cP P
 have HB := Aside0.mk hb
 have HX := Aside0.mk hx
 have HZ := Aside0.mk hz
 have HM := Aside0.mk (rmay_at (h.below hb))
 have HG := Aside0.mk (show w.heap.size ≤ w.heap.size + 1 by omega)
 clear h hb hx hz
 obtain ⟨vm, hvm⟩ : ∃ v, v = mayMB N G P := ⟨_, rfl⟩
 rw [← hvm] at HM hno
 clear hvm
 rcases hno with rfl | ⟨rfl, h1 | ⟨h1, h2 | ⟨h2, h3 | ⟨h3, h4⟩⟩⟩⟩
 all_goals
  try have l1 : ¬ a < 0 := by omega
  try have l2 : ¬ b < 0 := by omega
  try have l3 : ¬ (P.length : Int) ≤ a := by omega
  go_enter Try.func50, Try.ntmps50
  go_wp2_with (go_at_call 52; refine HM.out.mono ?_; rintro e w1 ⟨rfl, hb1⟩; have HB1 := Aside0.mk hb1; obtain ⟨ha0, ha1, ha2⟩ := (HX.out.below hb1).cells; obtain ⟨hy0, hy1, hy2, hf0, hf1, hf2⟩ := bk3 (blk_below HZ.out hb1); clear hb1)
  exact bodyPost_ret (results_ctt rfl _ _ (w.heap.size + 1) 38 #[.slice AN N.length cN, .slice AG G.length cG, .slice AP P.length cP] (0, 0) _ rfl (kP (blk_below HZ.out HB1.out)) Try.underlying38 rfl (by kernel_rfl)) rfl ⟨rfl, below_set (below_set (below_set (below_then HB.out HB.out.size HB1.out) HG.out) HG.out) HG.out⟩
theorem C_set_int {W : World} {n : Nat} {xs : List Int} {q : Addr} {x v : Value} (h : Kd.C (Kd.int .i64) W A n xs) (hq : W.cell? q = some x) (hx : ∀ z, x ≠ .int .i64 z) : Kd.C (Kd.int .i64) (W.setCell q v) A n xs := by
 obtain ⟨h1, h2, h3⟩ := h
 refine ⟨h1, h2, fun hn => ?_⟩
 obtain ⟨ad, e, hc⟩ := h3 hn
 refine ⟨ad, e, fun j y hj => ?_⟩
 obtain ⟨cs, hl, hK, hcell⟩ := hc j y hj
 refine ⟨cs, hl, hK, fun i u hi => ?_⟩
 have hu := hcell i u hi
 have hne : q ≠ ad.add (j * (Kd.int .i64).sz + i) := fun e => by
  rw [← e, hq] at hu
  obtain rfl := Option.some.inj hu
  have hK : cs = [.int .i64 y] := hK
  subst hK
  cases i with
  | zero => simp at hi; exact hx y hi.symm
  | succ i => simp at hi
 simp only [World.cell?_setCell_other, hne, ne_eq, not_false_eq_true, hu]
structure RMerge (AP : Option Addr) (P : List Int) (w W : World) (AN : Option Addr) (cN : Nat) (N : List S48) (AG : Option Addr) (cG : Nat) (G : List Int) (A : Option Addr) (c : Nat) (Q : List Int) : Prop where
 bel : Below w.heap.size w W
 box : MBox W w.heap.size AN cN N AG cG G A c Q
 res : W.heap[w.heap.size + 1]? = some (.cells #[.slice none 0 0, .slice none 0 0, .slice none 0 0] 38 (0, 0))
 q : Kd.C (Kd.int .i64) W A Q.length Q
 qc : Q.length ≤ c
 form : formB N G Q = true
 hd : Hand w.heap.size AP P A Q
theorem RMerge.at_ {W : World} {Q : List Int} (h : RMerge AP P w W AN cN N AG cG G A c Q) (h0 : MemoAt w AN cN N AG cG G AP cP P) : MemoAt W AN cN N AG cG G A c Q :=
 ⟨Kd.C_below h0.n h.bel, h0.nc, Kd.C_below h0.g h.bel, h0.gc, h.q, h.qc⟩
theorem RMerge.below {W W' : World} {Q : List Int} (h : RMerge AP P w W AN cN N AG cG G A c Q) (hb : Below W.heap.size W W') : RMerge AP P w W' AN cN N AG cG G A c Q :=
 ⟨below_then h.bel h.bel.size hb, h.box.below hb, blk_below h.res hb, Kd.C_below h.q hb, h.qc, h.form, h.hd⟩
theorem RMerge.put {W : World} {Q Q' : List Int} {A' : Option Addr} {c' : Nat} (h : RMerge AP P w W AN cN N AG cG G A c Q) (hr : Kd.C (Kd.int .i64) W A' Q'.length Q') (hc : Q'.length ≤ c') (hf : formB N G Q' = true) (hh : Hand w.heap.size AP P A' Q') :
  RMerge AP P w (W.setCell ⟨w.heap.size, 2, none⟩ (.slice A' Q'.length c')) AN cN N AG cG G A' c' Q' :=
 ⟨below_set h.bel (Nat.le_refl _), blk_put h.box 2 _ rfl, (Below.heap_setCell _ _ _ _ (Nat.succ_ne_self _)).trans h.res, C_set_int hr h.box.cells.2.2 (fun z e => by cases e), hc, hf, hh⟩
theorem RMerge.last {W : World} {Q : List Int} (h : RMerge AP P w W AN cN N AG cG G A c Q) (h0 : MemoAt w AN cN N AG cG G AP cP P) :
  MemoAt (((W.setCell ⟨w.heap.size + 1, 0, none⟩ (.slice AN N.length cN)).setCell ⟨w.heap.size + 1, 1, none⟩ (.slice AG G.length cG)).setCell ⟨w.heap.size + 1, 2, none⟩ (.slice A Q.length c)) AN cN N AG cG G A c Q ∧
  Below w.heap.size w (((W.setCell ⟨w.heap.size + 1, 0, none⟩ (.slice AN N.length cN)).setCell ⟨w.heap.size + 1, 1, none⟩ (.slice AG G.length cG)).setCell ⟨w.heap.size + 1, 2, none⟩ (.slice A Q.length c)) := by
 have hb : Below w.heap.size w (((W.setCell ⟨w.heap.size + 1, 0, none⟩ (.slice AN N.length cN)).setCell ⟨w.heap.size + 1, 1, none⟩ (.slice AG G.length cG)).setCell ⟨w.heap.size + 1, 2, none⟩ (.slice A Q.length c)) := below_set (below_set (below_set h.bel (Nat.le_succ _)) (Nat.le_succ _)) (Nat.le_succ _)
 have t1 := blk_put h.res 0 (.slice AN N.length cN) rfl
 have t2 := blk_put t1 1 (.slice AG G.length cG) rfl
 refine ⟨⟨Kd.C_below h0.n hb, h0.nc, Kd.C_below h0.g hb, h0.gc, ?_, h.qc⟩, hb⟩
 exact C_set_int (C_set_int (C_set_int h.q ((blk_cell h.res 0).trans rfl) (fun z e => by cases e)) ((blk_cell t1 1).trans rfl) (fun z e => by cases e)) ((blk_cell t2 2).trans rfl) (fun z e => by cases e)
set_option maxHeartbeats 16000000 in
set_option maxRecDepth 100000 in
theorem rmerge_yes (a b : Int) {k : Nat} {Res : List Int} (h : MemoAt w AN cN N AG cG G AP cP P) (h1 : mayMB N G P = true) (h2 : inB P a = true) (h3 : inB P b = true) (hres : mergeO N G k P a b = some Res) :
  Calls Try.prog 50 #[.agg #[.slice AN N.length cN, .slice AG G.length cG, .slice AP P.length cP], .int .i64 a, .int .i64 b] w fun e w' => ∃ A c, e = .returned (.tuple #[.agg #[.slice AN N.length cN, .slice AG G.length cG, .slice A Res.length c], .int .i64 (findS Res a), .int .i64 0]) ∧ MemoAt w' AN cN N AG cG G A c Res ∧ Hand w.heap.size AP P A Res ∧ Below w.heap.size w w' := by
 obtain ⟨hx, hz, hb⟩ := res_new w AN cN N AG cG G AP cP P
 have hI : RMerge AP P w _ AN cN N AG cG G AP cP P := ⟨hb, hx, hz, Kd.C_below h.p hb, h.pc, may_form h1, Hand.refl _ _ _⟩
 have HI := Aside0.mk hI
 have HB := Aside0.mk hb
 have HM := Aside0.mk (rmay_at (h.below hb))
 rw [h1] at HM
 have HH := Aside0.mk h
 have HL := Aside0.mk (may_lenP h1)
 have a2 := inB_iff.1 h2
 have b2 := inB_iff.1 h3
 have l1 : ¬ a < 0 := by omega
 have l2 : ¬ b < 0 := by omega
 have l3 : ¬ (P.length : Int) ≤ a := by omega
 have l4 : ¬ (P.length : Int) ≤ b := by omega
 have HIn := Aside0.mk (And.intro h2 h3)
 have HRes := Aside0.mk hres
 clear h h1 h2 h3 hb hx hz hI hres a2 b2
 go_enter Try.func50, Try.ntmps50
 go_wp2_with (go_at_call 52; refine HM.out.mono ?_; rintro e w1 ⟨rfl, hb1⟩; have HI1 := Aside0.mk (HI.out.below hb1); obtain ⟨ha0, ha1, ha2⟩ := HI1.out.box.cells; clear hb1)
 clear ha0 ha1 ha2
 go_loopg [10, 11] k (fun gk v10 v11 wr => ∃ (x y : Int) (Q : List Int) (A2 : Option Addr) (c2 : Nat), v10 = .int .i64 x ∧ v11 = .int .i64 y ∧ Aside0 (RMerge AP P w wr AN cN N AG cG G A2 c2 Q) ∧ Aside0 (Q.length = P.length) ∧ Aside0 ((x = -1 ∧ Q = Res) ∨ (inB Q x = true ∧ inB Q y = true ∧ mergeO N G gk Q x y = some Res)))
 case atStart => exact ⟨a, b, P, AP, cP, rfl, rfl, HI1, ⟨rfl⟩, ⟨.inr ⟨HIn.out.1, HIn.out.2, HRes.out⟩⟩⟩
 case round =>
  obtain ⟨x, y, Q, A2, c2, rfl, rfl, HJ, HQ, HC⟩ := hrel
  obtain ⟨hc0, hc1, hc2⟩ := HJ.out.box.cells
  rcases HC.out with ⟨rfl, rfl⟩ | ⟨hx, hy, hm⟩
  ·go_wp2
   have p0 := fun d os => cell_regrown hc0 d os
   have p1 := fun d os => cell_regrown hc1 d os
   have p2 := fun d os => cell_regrown hc2 d os
   have cF := fun d os => QR.bel (rfind_at a ((HJ.out.at_ HH.out).below (below_regrown wr d os)))
   refine QR.region 4 (by first | assumption | kernel_rfl) (by kernel_rfl) ?_
   simp only [List.take_succ_cons, List.take_zero, List.drop_succ_cons, List.drop_zero]
   repeat (refine QR.txt_step (fun K hK => ?_); have HK := Aside0.mk hK; clear hK; go_simp; first | (refine HK.out _ ?_; clear HK K) | (apply Exists.intro; refine ⟨fun _ => ?_, HK.out _ ?_⟩; (with_reducible exact cF _ _); clear HK K))
   refine QR.txt_nil ?_
   intro w5 hw5
   have HJ5 := Aside0.mk (HJ.out.below hw5.below)
   clear p0 p1 p2 cF hw5 hc0 hc1 hc2
   obtain ⟨hy0, hy1, hy2, hf0, hf1, hf2⟩ := bk3 HJ5.out.res
   go_wp2
   have hlast := HJ5.out.last HH.out
   exact bodyPost_ret (results_ctt rfl _ _ (w.heap.size + 1) 38 #[.slice AN N.length cN, .slice AG G.length cG, .slice A2 Q.length c2] (0, 0) _ rfl (kP HJ5.out.res) Try.underlying38 rfl (by kernel_rfl)) rfl ⟨_, _, rfl, hlast.1, HJ5.out.hd, hlast.2⟩
  ·cases gk with
   | zero => cases hm
   | succ gk =>
    have x2 := inB_iff.1 hx
    have y2 := inB_iff.1 hy
    have hmQ := (formB_parts HJ.out.form).1
    have hJo := inB_joined hmQ hx hy
    have hje := joined_eq hJo
    have hjl := joined_length hJo
    have hjm := joined_may hJo
    unfold mergeO at hm
    obtain ⟨Q', hQ'⟩ : ∃ Q', Q' = joinP Q x y := ⟨_, rfl⟩
    have HJC := Aside0.mk (join15_hand x y HJ.out.q HJ.out.qc (by have := HL.out; have := HQ.out; omega))
    rw [hje] at hm HJC
    rw [← hQ'] at hm HJC hjl hjm
    dsimp only at hm HJC
    have hf' : formB N G Q' = true := form_same HJ.out.form hjm hjl
    have HF := Aside0.mk hf'
    have HQ2 := Aside0.mk (hjl.trans HQ.out)
    have HMO := Aside0.mk (merge_open (P := Q') hf' hm)
    obtain ⟨⟨o1, o2⟩, ho⟩ : ∃ o, o = openS N G Q' := ⟨_, rfl⟩
    have HO := Aside0.mk (fun (W : World) (A : Option Addr) (c : Nat) (h : MemoAt W AN cN N AG cG G A c Q') => ropen_at h hf')
    rw [← ho] at HO HMO
    have l0 : 0 ≤ x := x2.1
    clear hx hy x2 y2 hmQ hJo hje hjl hjm hm hf' ho hQ'
    go_wp2_with (first | (go_at_call 30; refine HJC.out.mono ?_; rintro e w2 ⟨A', c', rfl, hlc, hr, hh, hb2⟩; have HJ2 := Aside0.mk (HJ.out.below hb2); have HP := Aside0.mk (HJ2.out.put hr hlc HF.out (HJ.out.hd.trans (hh.mono HJ.out.bel.size))); obtain ⟨hd0, hd1, hd2, hg0, hg1, hg2⟩ := bk3 HJ2.out.box; obtain ⟨he0, he1, he2⟩ := HP.out.box.cells; clear hb2 hr hh) | (go_at_call 82; refine (HO.out _ _ _ (HP.out.at_ HH.out)).mono ?_; rintro e w3 ⟨rfl, hb3⟩; have HP3 := Aside0.mk (HP.out.below hb3); clear hb3))
    go_roundg gk
    case rel => exact ⟨o1, o2, Q', A', c', rfl, rfl, HP3, HQ2, HMO⟩
    case measure => omega
theorem rmerge_hand (a b : Int) (h : MemoAt w AN cN N AG cG G AP cP P) :
  Calls Try.prog 50 #[.agg #[.slice AN N.length cN, .slice AG G.length cG, .slice AP P.length cP], .int .i64 a, .int .i64 b] w fun e w' => ∃ A c, e = .returned (.tuple #[.agg #[.slice AN N.length cN, .slice AG G.length cG, .slice A (mergeT N G P a b).1.length c], .int .i64 (mergeT N G P a b).2.1, .int .i64 (mergeT N G P a b).2.2]) ∧ MemoAt w' AN cN N AG cG G A c (mergeT N G P a b).1 ∧ Hand w.heap.size AP P A (mergeT N G P a b).1 ∧ Below w.heap.size w w' := by
 by_cases hc : (mayMB N G P && (inB P a && inB P b)) = true
 ·simp only [Bool.and_eq_true] at hc
  have hM : Mer N G P a b := ⟨hc.1, hc.2.1, hc.2.2⟩
  rw [hM.eq]
  exact rmerge_yes a b h hc.1 hc.2.1 hc.2.2 (mergeO_k (may_form hc.1) hc.2.1 hc.2.2 (Nat.le_refl 401))
 ·have e : mergeT N G P a b = (P, -1, 1) := by unfold mergeT; rw [if_neg hc]
  rw [e]
  have hno : mayMB N G P = false ∨ mayMB N G P = true ∧ (a < 0 ∨ 0 ≤ a ∧ (b < 0 ∨ 0 ≤ b ∧ ((P.length : Int) ≤ a ∨ a < (P.length : Int) ∧ (P.length : Int) ≤ b))) := by
   cases hm : mayMB N G P with
   | false => exact .inl rfl
   | true =>
    refine .inr ⟨rfl, ?_⟩
    rw [hm, Bool.true_and] at hc
    simp only [Bool.and_eq_true, inB_iff] at hc
    omega
  exact (rmerge_no a b h hno).mono fun e w' ⟨he, hb⟩ => ⟨_, _, he, h.below hb, Hand.refl _ _ _, hb⟩
end
end Go.Proofs.Ytkidnomkfdnciaa.All
