/- Of tells each node's Canon of a group once, and no other group's; no Canon is of two groups; for all memos and numbers. No further condition. -/
import Derived.Test.YtkidnomkfdnciaaMemo2
import Derived.Test.YtkidnomkfdnciaaAllx44
namespace Go.Proofs.Ytkidnomkfdnciaa.Pure
open Go.RowKit Go.Proofs.Ytkidnomkfdnciaa.All Go.Proofs.YtkidnomkfdnciaaW.PrintWords
theorem count_one (r0 : Nat) : ∀ n, (List.range n).countP (fun r => decide (r = r0)) = if r0 < n then 1 else 0
  | 0 => rfl
  | n + 1 => by
    rw [List.range_succ, List.countP_append, count_one r0 n, List.countP_cons, List.countP_nil]
    by_cases h2 : n = r0
    · subst h2; simp
    · rw [decide_eq_false h2]
      simp only [Bool.false_eq_true, if_false, Nat.add_zero]
      by_cases h : r0 < n
      · rw [if_pos h, if_pos (by omega)]
      · rw [if_neg h, if_neg (by omega)]
def likeN (N : List S48) (P : List Int) (i : Nat) (v : Int) : Bool := decide (canonS (rootsS P) (N.getD v.toNat z48) = canonS (rootsS P) (N.getD i z48))
theorem of_count {N : List S48} {G P : List Int} (hm : mayMB N G P = true) {i : Nat} (hi : i < N.length) : (ofL N G P (G.getD i 0) N.length).countP (likeN N P i) = 1 := by
  obtain ⟨r0, hr0, hle, hcs⟩ := posN_is (cs := canonsS N P) hi
  unfold ofL
  rw [List.countP_map, List.countP_filter]
  have : ∀ r ∈ List.range N.length, ((likeN N P i ∘ fun i : Nat => (i : Int)) r && ofB N G P (G.getD i 0) r) = true ↔ decide (r = r0) = true := by
    intro r hr
    have hr := List.mem_range.1 hr
    unfold likeN ofB
    simp only [Function.comp, Int.toNat_natCast, Bool.and_eq_true, decide_eq_true_eq]
    constructor
    · rintro ⟨h1, _, h3⟩
      rw [canons_at N P hr, h1, ← canons_at N P hi, hr0] at h3
      exact (Option.some.inj h3).symm
    · rintro rfl
      have h1 := hcs
      rw [canons_at N P hr, canons_at N P hi] at h1
      exact ⟨h1, may_closed hm r i hr hi h1, by rw [hcs]; exact hr0⟩
  rw [List.countP_congr this, count_one, if_pos (by omega)]
theorem of_at {N : List S48} {G P : List Int} {g : Int} {n q : Nat} (h : q < (ofL N G P g n).length) : ∃ r : Nat, (ofL N G P g n).getD q 0 = (r : Int) ∧ r < n ∧ findS P (G.getD r 0) = findS P g := by
  have hmem : (ofL N G P g n).getD q 0 ∈ ofL N G P g n := by
    rw [List.getD_eq_getElem?_getD, List.getElem?_eq_getElem h]
    exact List.getElem_mem _
  unfold ofL at hmem
  obtain ⟨r, hr, he⟩ := List.mem_map.1 hmem
  rw [List.mem_filter, List.mem_range] at hr
  refine ⟨r, he.symm, hr.1, ?_⟩
  have := hr.2
  unfold ofB at this
  simp only [Bool.and_eq_true, decide_eq_true_eq] at this
  exact this.1
theorem of_loop {N : List S48} {G P : List Int} (hm : mayMB N G P = true) {i j : Nat} (hi : i < N.length) (hj : j < N.length) (l : List Int) (hll : l.length ≤ 400)
    (hl : ∀ q, q < l.length → ∃ r : Nat, l.getD q 0 = (r : Int) ∧ r < N.length ∧ findS P (G.getD r 0) = findS P (G.getD i 0)) (d : Nat) : ∀ (k q c : Nat), q + d = l.length → 2 * d + 500 < k → c + (l.drop q).countP (likeN N P i) = 1 →
    roadbooklaw16_MemoOf.l0 k (i : Int) (j : Int) l (c : Int) (q : Int) N G P = some true := by
  have hG := may_lenG hm
  have hP := may_P hm
  induction d with
  | zero =>
    intro k q c hq hk hc
    obtain ⟨k, rfl⟩ : ∃ m, k = m + 1 := ⟨k - 1, by omega⟩
    simp only [roadbooklaw16_MemoOf.l0]
    rw [if_neg (by omega), if_pos (by omega), if_pos (by omega), rd48 N i, canon_f hP (form_N (may_form hm) hi) (by omega)]
    simp only [Option.bind_some]
    rw [if_pos (by omega), if_pos (by omega), rd48 N j, canon_f hP (form_N (may_form hm) hj) (by omega)]
    simp only [Option.bind_some]
    rw [List.drop_eq_nil_of_le (by omega), List.countP_nil] at hc
    rw [if_pos (by omega), eq48]
    by_cases e : canonS (rootsS P) (N.getD i z48) = canonS (rootsS P) (N.getD j z48)
    · rw [decide_eq_true e, if_pos rfl, if_pos (by omega), rd_getD]
      unfold memo_Find.f sets_Find.f
      simp only [Option.bind_some]
      rw [if_pos (by omega), rd_getD]
      rw [may_closed hm i j hi hj e]
      simp
    · rw [decide_eq_false e, if_neg (by decide)]
  | succ d ih =>
    intro k q c hq hk hc
    obtain ⟨k, rfl⟩ : ∃ m, k = m + 2 := ⟨k - 2, by omega⟩
    obtain ⟨r, hr, hrN, hf⟩ := hl q (by omega)
    simp only [roadbooklaw16_MemoOf.l0]
    rw [if_pos (by omega), if_pos (by omega), rd_getD, hr, if_neg (by omega), if_neg (by omega), if_pos (by omega), if_pos (by omega), rd_getD]
    unfold memo_Find.f sets_Find.f
    simp only [Option.bind_some]
    rw [if_pos (by omega), if_pos (by omega), rd_getD]
    rw [hf]
    simp only [bne_self_eq_false, roadbooklaw16_MemoOf.j2, Bool.false_eq_true, if_false]
    rw [if_pos (by omega), if_pos (by omega), rd_getD, hr, if_pos (by omega), if_pos (by omega), rd48 N r, canon_f hP (form_N (may_form hm) hrN) (by omega)]
    simp only [Option.bind_some]
    rw [if_pos (by omega), if_pos (by omega), rd48 N i, canon_f hP (form_N (may_form hm) hi) (by omega)]
    simp only [Option.bind_some]
    have hd : l.drop q = l.getD q 0 :: l.drop (q + 1) := by
      rw [List.drop_eq_getElem_cons (by omega), List.getD_eq_getElem?_getD, List.getElem?_eq_getElem (by omega)]
      rfl
    rw [hd, List.countP_cons, hr] at hc
    unfold likeN at hc
    rw [Int.toNat_natCast] at hc
    rw [eq48, wrap_in (by omega) (by omega)]
    by_cases e : canonS (rootsS P) (N.getD r z48) = canonS (rootsS P) (N.getD i z48)
    · rw [decide_eq_true e, if_pos rfl] at hc
      rw [decide_eq_true e, if_pos rfl, wrap_in (by omega) (by omega)]
      exact ih k (q + 1) (c + 1) (by omega) (by omega) (by unfold likeN; omega)
    · rw [decide_eq_false e, if_neg (by decide)] at hc
      rw [decide_eq_false e, if_neg (by decide), wrap_in (by omega) (by omega)]
      exact ih k (q + 1) c (by omega) (by omega) (by unfold likeN; omega)
def MemoOfPure : Prop := ∀ (N0 : List S48) (G0 P0 : List Int), Lim N0 G0 P0 → ∀ a1 : Int, (Lit.int .i64 a1).wf = true → ∀ a2 : Int, (Lit.int .i64 a2).wf = true → ∃ k, roadbooklaw16_MemoOf.f k N0 G0 P0 a1 a2 = some true
theorem MemoOf : MemoOfPure := by
  intro N G P hL i _ j _
  obtain ⟨k, hk⟩ : ∃ k : Nat, k = 2999 := ⟨_, rfl⟩
  refine ⟨k + 1, ?_⟩
  unfold roadbooklaw16_MemoOf.f roadbooklaw16_awake.f memo_May.f
  rw [few_k]
  simp only [Option.bind_some, if_true]
  cases hf : fewB N G P 60 with
  | false => simp [roadbooklaw16_MemoOf.j0]
  | true =>
    cases hm : mayMB N G P with
    | false => simp [roadbooklaw16_MemoOf.j0]
    | true =>
      simp only [if_true]
      by_cases h0 : i < 0
      · simp [roadbooklaw16_MemoOf.j0, h0]
      by_cases h1 : j < 0
      · simp [roadbooklaw16_MemoOf.j0, h0, h1]
      by_cases h2 : i ≥ N.length
      · simp [roadbooklaw16_MemoOf.j0, h0, h1, h2]
      by_cases h3 : j ≥ N.length
      · simp [roadbooklaw16_MemoOf.j0, h0, h1, h2, h3]
      obtain ⟨i, rfl⟩ := Int.eq_ofNat_of_zero_le (by omega : 0 ≤ i)
      obtain ⟨j, rfl⟩ := Int.eq_ofNat_of_zero_le (by omega : 0 ≤ j)
      have hG := may_lenG hm
      have hN := may_lenN hm
      have hi : i < N.length := by omega
      rw [if_neg h0, if_neg h1, if_neg h2, decide_eq_false h3]
      simp only [roadbooklaw16_MemoOf.j0, Bool.false_eq_true, if_false]
      rw [if_pos (by omega), if_pos (by omega), rd_getD]
      have hg := form_G (may_form hm) hi
      have hne : findS P (G.getD i 0) ≠ -1 := by rw [find_in (may_P hm) hg]; omega
      have hof : ofS N G P (G.getD i 0) = ofL N G P (G.getD i 0) N.length := by unfold ofS; rw [hm, if_pos rfl, if_neg hne]
      unfold memo_Of.f
      rw [hof]
      simp only [Option.bind_some]
      have hlen := ofL_length N G P (G.getD i 0) N.length
      exact of_loop hm hi (by omega) _ (by omega) (fun q hq => of_at hq) _ k 0 0 (Nat.zero_add _) (by omega) (by rw [List.drop_zero, of_count hm hi])
end Go.Proofs.Ytkidnomkfdnciaa.Pure
