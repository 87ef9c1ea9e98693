/- What the document's functions on sets come to: the same as the plain functions. -/
import Derived.Test.YtkidnomkfdnciaaSets2
import Derived.Test.YtkidnomkfdnciaaAllx5
namespace Go.Proofs.Ytkidnomkfdnciaa.All
open Go.RowKit Go.Proofs.YtkidnomkfdnciaaW.PrintWords
theorem may15_loop (p : List Int) (hp : p.length ≤ 9223372036854775807) (d : Nat) : ∀ (k i : Nat), i + d = p.length → d < k → (∀ j, j < i → 0 ≤ p.getD j 0 ∧ p.getD j 0 ≤ (j : Int)) →
    roadbookref15_May.l0 k p (i : Int) = some (mayB p) := by
  induction d with
  | zero =>
    intro k i hi hk hj
    obtain ⟨k, rfl⟩ : ∃ m, k = m + 1 := ⟨k - 1, by omega⟩
    simp only [roadbookref15_May.l0]
    rw [if_neg (by omega)]
    congr 1
    rw [Bool.eq_iff_iff, decide_eq_true_eq]
    exact ⟨fun h => mayB_of (fun j h' => hj j (by omega)) (by omega), fun h => by have := mayB_len h; omega⟩
  | succ d ih =>
    intro k i hi hk hj
    obtain ⟨k, rfl⟩ : ∃ m, k = m + 1 := ⟨k - 1, by omega⟩
    simp only [roadbookref15_May.l0]
    rw [if_pos (by omega), if_pos (by omega), rd_getD]
    by_cases h1 : p.getD i 0 < 0
    · rw [if_pos h1]
      cases hb : mayB p
      · rfl
      · have := mayB_at hb i (by omega); omega
    rw [if_neg h1]
    by_cases h2 : p.getD i 0 > (i : Int)
    · rw [if_pos h2]
      cases hb : mayB p
      · rfl
      · have := mayB_at hb i (by omega); omega
    rw [if_neg h2, wrap_in (by omega) (by omega)]
    refine ih k (i + 1) (by omega) (by omega) (fun j hj' => ?_)
    rcases Nat.lt_or_eq_of_le (Nat.lt_succ_iff.mp hj') with h | h
    · exact hj j h
    · subst h; omega
theorem may15_k (p : List Int) (k : Nat) (hp : p.length ≤ 9223372036854775807) (hk : p.length < k) : roadbookref15_May.f k p = some (mayB p) :=
  may15_loop p hp p.length k 0 (by omega) (by omega) (fun j hj => by omega)
theorem find15_loop (p : List Int) (hm : mayB p = true) : ∀ (f k i : Nat), i < p.length → i ≤ f → f < k → roadbookref15_Find.l0 k p (i : Int) = some ((upN p f i : Nat) : Int)
  | f, 0, i, hi, hf, hk => by omega
  | 0, k + 1, i, hi, hf, hk => by
    have := mayB_at hm i hi
    simp only [roadbookref15_Find.l0]
    rw [if_pos (by omega), if_pos (by omega), rd_getD, if_pos (by omega)]
    rfl
  | f + 1, k + 1, i, hi, hf, hk => by
    have hmi := mayB_at hm i hi
    simp only [roadbookref15_Find.l0]
    rw [if_pos (by omega), if_pos (by omega), rd_getD]
    rw [upN]
    by_cases h : p.getD i 0 = (i : Int)
    · rw [if_pos h, if_pos h]
    · rw [if_neg h, if_neg h]
      have := find15_loop p hm f k (p.getD i 0).toNat (by omega) (by omega) (by omega)
      rw [Int.toNat_of_nonneg hmi.1] at this
      exact this
theorem find15_k (p : List Int) (a : Int) (k : Nat) (hp : p.length ≤ 9223372036854775807) (hk : p.length + 1 < k) : roadbookref15_Find.f k p a = some (findS p a) := by
  unfold roadbookref15_Find.f
  rw [may15_k p k hp (by omega), Option.bind_some]
  obtain ⟨k, rfl⟩ : ∃ m, k = m + 1 := ⟨k - 1, by omega⟩
  rcases findS_cases p a with ⟨h1, h2⟩ | ⟨h1, h2, h3, h4⟩
  · rw [h1]
    by_cases hm : mayB p = true
    · rw [if_pos hm]
      by_cases h : a < 0
      · rw [if_pos h]; simp [roadbookref15_Find.j0]
      · rw [if_neg h]
        have : (p.length : Int) ≤ a := by
          rcases h2 with g | g | g
          · rw [hm] at g; cases g
          · exact absurd g h
          · exact g
        rw [decide_eq_true this]; simp [roadbookref15_Find.j0]
    · rw [if_neg hm]; simp [roadbookref15_Find.j0]
  · rw [if_pos h1, if_neg (by omega), decide_eq_false (by omega), h4]
    simp only [roadbookref15_Find.j0, Bool.false_eq_true, if_false]
    obtain ⟨n, rfl⟩ := Int.eq_ofNat_of_zero_le h2
    rw [Int.toNat_natCast]
    exact find15_loop p h1 n k n (by omega) (Nat.le_refl _) (by omega)
theorem roots15_loop (p : List Int) (hm : mayB p = true) (d : Nat) : ∀ (k i : Nat), i + d = p.length → d + p.length + 2 < k →
    roadbookref15_Roots.l0 k p ((List.range i).map fun j => ((rootN p j : Nat) : Int)) true (i : Int) = some ((List.range p.length).map fun j => ((rootN p j : Nat) : Int)) := by
  have hl := mayB_len hm
  induction d with
  | zero =>
    intro k i hi hk
    obtain ⟨k, rfl⟩ : ∃ m, k = m + 1 := ⟨k - 1, by omega⟩
    simp only [roadbookref15_Roots.l0]
    rw [if_neg (by omega), show i = p.length by omega]
  | succ d ih =>
    intro k i hi hk
    obtain ⟨k, rfl⟩ : ∃ m, k = m + 1 := ⟨k - 1, by omega⟩
    simp only [roadbookref15_Roots.l0]
    rw [if_pos (by omega), if_pos trivial, find15_k p _ k (by omega) (by omega), Option.bind_some, if_pos (by simp; omega), wrap_in (by omega) (by omega)]
    have := ih k (i + 1) (by omega) (by omega)
    rw [List.range_succ, List.map_append] at this
    rw [findS_in hm (by omega) (by omega), Int.toNat_natCast]
    exact this
theorem roots15_k (p : List Int) (k : Nat) (hp : p.length ≤ 9223372036854775807) (hk : 2 * p.length + 2 < k) : roadbookref15_Roots.f k p = some (rootsS p) := by
  unfold roadbookref15_Roots.f
  rw [may15_k p k hp (by omega), Option.bind_some]
  unfold rootsS
  by_cases hm : mayB p = true
  · rw [if_pos hm, hm]
    exact roots15_loop p hm p.length k 0 (by omega) (by omega)
  · rw [if_neg hm, Bool.eq_false_iff.mpr hm]
    obtain ⟨k, rfl⟩ : ∃ m, k = m + 1 := ⟨k - 1, by omega⟩
    simp only [roadbookref15_Roots.l0]
    by_cases h0 : (0 : Int) < (p.length : Int)
    · rw [if_pos h0, if_neg (by simp)]
    · rw [if_neg h0]
theorem same15_k (p q : List Int) (k : Nat) (hp : p.length ≤ 4611686018427387904) (hq : q.length ≤ 4611686018427387904) (h1 : 2 * p.length + 2 < k) (h2 : 2 * q.length + 2 < k) : roadbookref15_Same.f k p q = some (sameB p q) := by
  unfold roadbookref15_Same.f
  have := rootsS_len p
  rw [may15_k p k (by omega) (by omega), may15_k q k (by omega) (by omega), roots15_k p k (by omega) (by omega), roots15_k q k (by omega) (by omega)]
  simp only [Option.bind_some]
  rw [ints_k _ _ k (by omega) (by omega), Option.bind_some]
  unfold sameB
  cases mayB p <;> cases mayB q <;> simp
end Go.Proofs.Ytkidnomkfdnciaa.All
