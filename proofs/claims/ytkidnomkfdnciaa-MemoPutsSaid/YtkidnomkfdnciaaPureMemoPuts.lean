/- A node that is put is looked up in the group that is told, put again nothing changes, the nodes that were there stay where they were, and at most one node and one group come to it; for all memos, nodes and numbers. No further condition. -/
import Derived.Test.YtkidnomkfdnciaaMemo3
import Derived.Test.YtkidnomkfdnciaaAllx48
namespace Go.Proofs.Ytkidnomkfdnciaa.Pure
open Go.RowKit Go.Proofs.Ytkidnomkfdnciaa.All Go.Proofs.YtkidnomkfdnciaaW.PrintWords
theorem puts_loop {N N' : List S48} {G G' P P' : List Int} (hN : N.length ≤ 400) (hP : P.length ≤ 400) (hG : G.length = N.length) (hG' : G'.length = N'.length) (n0 : N.length ≤ N'.length) (n1 : N'.length ≤ N.length + 1) (p1 : P'.length ≤ P.length + 1)
    (ns : ∀ j, j < N.length → N'.getD j z48 = N.getD j z48) (gs : ∀ j, j < N.length → G'.getD j 0 = G.getD j 0) (d : Nat) : ∀ k i : Nat, i + d = N.length → d < k → roadbooklaw16_MemoPuts.l0 k (i : Int) N G P N' G' P' = some true := by
  induction d with
  | zero =>
    intro k i hi hk
    obtain ⟨k, rfl⟩ : ∃ m, k = m + 1 := ⟨k - 1, by omega⟩
    simp only [roadbooklaw16_MemoPuts.l0]
    rw [if_neg (by omega), wrap_in (by omega) (by omega), if_pos (by omega), wrap_in (by omega) (by omega), decide_eq_true (by omega)]
  | succ d ih =>
    intro k i hi hk
    obtain ⟨k, rfl⟩ : ∃ m, k = m + 1 := ⟨k - 1, by omega⟩
    simp only [roadbooklaw16_MemoPuts.l0]
    rw [if_pos (by omega), if_neg (by omega), if_pos (by omega), if_pos (by omega), rd48, rd48, ne48, ns i (by omega), decide_eq_true rfl, if_neg (by decide), if_pos (by omega), if_pos (by omega), rd_getD, rd_getD, if_pos (gs i (by omega)), wrap_in (by omega) (by omega)]
    exact ih k (i + 1) (by omega) (by omega)
def MemoPutsPure : Prop := ∀ (N0 : List S48) (G0 P0 : List Int), Lim N0 G0 P0 → ∀ n1 : S48, ∀ a2 : Int, (Lit.int .i64 a2).wf = true → ∃ k, roadbooklaw16_MemoPuts.f k N0 G0 P0 n1.f0 n1.f1 n1.f2 n1.f3 a2 = some true
theorem MemoPuts : MemoPutsPure := by
  intro N G P hL n g _
  obtain ⟨k, hk⟩ : ∃ k : Nat, k = 3000 := ⟨_, rfl⟩
  refine ⟨k + 1, ?_⟩
  unfold roadbooklaw16_MemoPuts.f roadbooklaw16_awake.f
  rw [few_k]
  simp only [Option.bind_some, if_true, roadbooklaw16_MemoPuts.j0]
  cases hf : fewB N G P 60 with
  | false => simp
  | true =>
    simp only [Bool.not_true, Bool.false_eq_true, if_false]
    rw [put_k hL n g (by omega)]
    have c := put_cases N G P n g
    generalize putT N G P n g = r at *
    simp only [Option.bind_some]
    by_cases he : r.2.2.2.2 = 0
    · have o := c.ok he
      obtain ⟨N', G', P', h, e⟩ := r
      dsimp only at he o ⊢
      subst he
      have hm := o.may
      have h1 := may_lenN hm
      have h2 := may_lenG hm
      have h3 := may_lenP hm
      rw [if_pos rfl, look_f, o.look, put_k (may_Lim hm) n g (by omega), o.again]
      unfold memo_May.f memo_Find.f sets_Find.f
      simp only [Option.bind_some]
      rw [hm, msame_k (by omega) (by omega) (by omega) (by omega) (by omega), same_refl (may_P hm)]
      simp only [if_true, Option.bind_some, Bool.not_true]
      obtain ⟨q, hk2⟩ : ∃ m, k = m + 1 := ⟨k - 1, by omega⟩
      have fin : roadbooklaw16_MemoPuts.j1 k false N G P N' G' P' = some true := by
        rw [hk2]
        simp only [roadbooklaw16_MemoPuts.j1, Bool.false_eq_true, if_false]
        exact puts_loop (may_lenN o.was) (may_lenP o.was) (may_lenG o.was) h2 o.n0 o.n1 o.p1 o.ns o.gs _ _ 0 (Nat.zero_add _) (by have := may_lenN o.was; omega)
      by_cases hg : g = -1
      · rw [if_pos hg]; exact fin
      · rw [if_neg hg, if_pos (by rcases o.grp with h | h; exact absurd h hg; exact h.2)]; exact fin
    · rw [if_neg he, (c.no he).1]
      rfl
end Go.Proofs.Ytkidnomkfdnciaa.Pure
