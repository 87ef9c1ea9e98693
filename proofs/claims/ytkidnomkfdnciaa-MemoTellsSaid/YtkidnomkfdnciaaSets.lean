/- Plain facts on sets of numbers: what the least ones are, what joining does to them; what each printed function of the package sets comes to. -/
import Derived.Test.YtkidnomkfdnciaaAllx4
namespace Go.Proofs.Ytkidnomkfdnciaa.All
open Go.RowKit Go.Proofs.YtkidnomkfdnciaaW.PrintWords

/-! ### the least ones -/
theorem rootN_le {p : List Int} (hm : mayB p = true) {i : Nat} (hi : i < p.length) : rootN p i ≤ i := upN_le p hm i i hi
theorem rootN_fix {p : List Int} (hm : mayB p = true) : ∀ (i : Nat), i < p.length → p.getD (rootN p i) 0 = ((rootN p i : Nat) : Int) := by
  intro i
  induction i using Nat.strongRecOn with
  | _ i ih =>
    intro hi
    have hb := mayB_at hm i hi
    rw [rootN_step p hm i hi]
    split
    · assumption
    · exact ih _ (by omega) (by omega)
theorem rootN_of_fix {p : List Int} (hm : mayB p = true) {i : Nat} (hi : i < p.length) (h : p.getD i 0 = (i : Int)) : rootN p i = i := by
  rw [rootN_step p hm i hi, if_pos h]
theorem rootN_idem {p : List Int} (hm : mayB p = true) {i : Nat} (hi : i < p.length) : rootN p (rootN p i) = rootN p i :=
  rootN_of_fix hm (Nat.lt_of_le_of_lt (rootN_le hm hi) hi) (rootN_fix hm i hi)
/-- A list that names each number's least one. -/
def flat (q : List Int) (ρ : Nat → Nat) : Prop := ∀ i, i < q.length → q.getD i 0 = ((ρ i : Nat) : Int) ∧ ρ i ≤ i ∧ ρ (ρ i) = ρ i
theorem flat_may {q : List Int} {ρ : Nat → Nat} (h : flat q ρ) (hl : q.length ≤ 400) : mayB q = true :=
  mayB_of (fun i hi => by have := h i hi; omega) hl
theorem flat_root {q : List Int} {ρ : Nat → Nat} (h : flat q ρ) (hl : q.length ≤ 400) {i : Nat} (hi : i < q.length) : rootN q i = ρ i := by
  have hm := flat_may h hl
  have h1 := h i hi
  rw [rootN_step q hm i hi, h1.1]
  split
  · omega
  · rw [Int.toNat_natCast]
    refine rootN_of_fix hm (by omega) ?_
    have h2 := h (ρ i) (by omega)
    rw [h2.1, h1.2.2]
theorem ext_getD {a b : List Int} (hl : a.length = b.length) (h : ∀ i, i < a.length → a.getD i 0 = b.getD i 0) : a = b := by
  apply List.ext_getElem hl
  intro i h1 h2
  have := h i h1
  simpa [List.getD_eq_getElem?_getD, List.getElem?_eq_getElem h1, List.getElem?_eq_getElem h2] using this
theorem rootsS_at {p : List Int} (hm : mayB p = true) {i : Nat} (hi : i < p.length) : (rootsS p).getD i 0 = ((rootN p i : Nat) : Int) := by
  unfold rootsS
  rw [if_pos hm]
  simp [List.getD_eq_getElem?_getD, List.getElem?_map, List.getElem?_range hi]
theorem flat_roots {q : List Int} {ρ : Nat → Nat} (h : flat q ρ) (hl : q.length ≤ 400) : rootsS q = q := by
  have hm := flat_may h hl
  refine ext_getD (rootsS_length q hm) fun i hi => ?_
  rw [rootsS_length q hm] at hi
  rw [rootsS_at hm hi, flat_root h hl hi, (h i hi).1]
theorem findS_in {p : List Int} (hm : mayB p = true) {i : Int} (h0 : 0 ≤ i) (h1 : i < p.length) : findS p i = ((rootN p i.toNat : Nat) : Int) := by
  unfold findS rootZ inB
  rw [if_pos (by simp [hm, h0, h1])]
theorem findS_out {p : List Int} {i : Int} (h : mayB p = false ∨ i < 0 ∨ (p.length : Int) ≤ i) : findS p i = -1 := by
  unfold findS
  rw [if_neg]
  intro hh
  simp only [Bool.and_eq_true, inB, decide_eq_true_eq] at hh
  rcases h with h | h | h
  · rw [h] at hh; exact Bool.false_ne_true hh.1
  · omega
  · omega
theorem findS_cases (p : List Int) (i : Int) : (findS p i = -1 ∧ (mayB p = false ∨ i < 0 ∨ (p.length : Int) ≤ i)) ∨ (mayB p = true ∧ 0 ≤ i ∧ i < p.length ∧ findS p i = ((rootN p i.toNat : Nat) : Int)) := by
  by_cases h : mayB p = true ∧ 0 ≤ i ∧ i < p.length
  · exact .inr ⟨h.1, h.2.1, h.2.2, findS_in h.1 h.2.1 h.2.2⟩
  · refine .inl ?_
    have : mayB p = false ∨ i < 0 ∨ (p.length : Int) ≤ i := by
      cases hm : mayB p
      · exact .inl rfl
      · right
        rw [hm] at h
        simp only [true_and] at h
        omega
    exact ⟨findS_out this, this⟩

/-! ### joining -/
/-- The least one of a number whose least one was r, x's and y's sets being joined. -/
def J (x y r : Nat) : Nat := if r = max x y then min x y else r
structure Joined (p : List Int) (a b : Int) : Prop where
  may : mayB p = true
  a0 : 0 ≤ a
  al : a < p.length
  b0 : 0 ≤ b
  bl : b < p.length
theorem join_cases (p : List Int) (a b : Int) : (joinS p a b = (p, false) ∧ (mayB p = false ∨ findS p a = -1 ∨ findS p b = -1)) ∨
    (Joined p a b ∧ joinS p a b = ((rootsS p).map (fun r => if r = max (findS p a) (findS p b) then min (findS p a) (findS p b) else r), true)) := by
  unfold joinS
  rcases findS_cases p a with ⟨h1, h2⟩ | ⟨hm, h1, h2, h3⟩
  · rw [if_pos h1]; exact .inl ⟨rfl, .inr (.inl h1)⟩
  · rw [if_neg (by omega)]
    rcases findS_cases p b with ⟨g1, g2⟩ | ⟨_, g1, g2, g3⟩
    · rw [if_pos g1]; exact .inl ⟨rfl, .inr (.inr g1)⟩
    · rw [if_neg (by omega)]; exact .inr ⟨⟨hm, h1, h2, g1, g2⟩, rfl⟩
/-- What is joined. -/
def joinP (p : List Int) (a b : Int) : List Int := (joinS p a b).1
theorem joined_eq {p : List Int} {a b : Int} (h : Joined p a b) : joinS p a b = (joinP p a b, true) := by
  rcases join_cases p a b with ⟨_, h2⟩ | ⟨_, h2⟩
  · have h1 := findS_in h.may h.a0 h.al
    have h3 := findS_in h.may h.b0 h.bl
    rcases h2 with h2 | h2 | h2
    · rw [h.may] at h2; cases h2
    · omega
    · omega
  · unfold joinP; rw [h2]
theorem joined_spec {p : List Int} {a b : Int} (h : Joined p a b) : (joinP p a b).length = p.length ∧ flat (joinP p a b) (fun i => J (rootN p a.toNat) (rootN p b.toNat) (rootN p i)) := by
  have hA : a.toNat < p.length := by have := h.a0; have := h.al; omega
  have hB : b.toNat < p.length := by have := h.b0; have := h.bl; omega
  have e : joinP p a b = (rootsS p).map (fun r => if r = max (findS p a) (findS p b) then min (findS p a) (findS p b) else r) := by
    rcases join_cases p a b with ⟨h1, _⟩ | ⟨_, h2⟩
    · have := joined_eq h; rw [h1] at this; exact absurd (congrArg Prod.snd this) (by simp)
    · unfold joinP; rw [h2]
  have hl : (joinP p a b).length = p.length := by rw [e, List.length_map, rootsS_length p h.may]
  refine ⟨hl, fun i hi => ?_⟩
  rw [hl] at hi
  have hra := rootN_idem h.may hA
  have hrb := rootN_idem h.may hB
  have hla := rootN_le h.may hA
  have hlb := rootN_le h.may hB
  have hri := rootN_idem h.may hi
  have hli := rootN_le h.may hi
  have hat : (joinP p a b).getD i 0 = ((J (rootN p a.toNat) (rootN p b.toNat) (rootN p i) : Nat) : Int) := by
    have hrl : i < (rootsS p).length := by rw [rootsS_length p h.may]; exact hi
    have hr := rootsS_at h.may hi
    rw [List.getD_eq_getElem?_getD, List.getElem?_eq_getElem hrl] at hr
    simp only [Option.getD_some] at hr
    rw [e, List.getD_eq_getElem?_getD, List.getElem?_map, List.getElem?_eq_getElem hrl]
    simp only [Option.map_some, Option.getD_some, hr]
    rw [findS_in h.may h.a0 h.al, findS_in h.may h.b0 h.bl]
    unfold J
    split
    · rw [if_pos (by omega)]; omega
    · rw [if_neg (by omega)]
  refine ⟨hat, ?_, ?_⟩
  · show J _ _ _ ≤ i
    unfold J; split <;> omega
  · simp only
    generalize rootN p a.toNat = x at *
    generalize rootN p b.toNat = y at *
    unfold J
    by_cases hc : rootN p i = max x y
    · rw [if_pos hc]
      rcases Nat.le_total x y with hxy | hxy
      · rw [Nat.min_eq_left hxy, Nat.max_eq_right hxy, hra]; split <;> omega
      · rw [Nat.min_eq_right hxy, Nat.max_eq_left hxy, hrb]; split <;> omega
    · rw [if_neg hc, hri, if_neg hc]
theorem joined_length {p : List Int} {a b : Int} (h : Joined p a b) : (joinP p a b).length = p.length := (joined_spec h).1
theorem joined_may {p : List Int} {a b : Int} (h : Joined p a b) : mayB (joinP p a b) = true := flat_may (joined_spec h).2 (by rw [joined_length h]; exact mayB_len h.may)
theorem joined_root {p : List Int} {a b : Int} (h : Joined p a b) {i : Nat} (hi : i < p.length) : rootN (joinP p a b) i = J (rootN p a.toNat) (rootN p b.toNat) (rootN p i) :=
  flat_root (joined_spec h).2 (by rw [joined_length h]; exact mayB_len h.may) (by rw [joined_length h]; exact hi)
theorem joined_flat {p : List Int} {a b : Int} (h : Joined p a b) : rootsS (joinP p a b) = joinP p a b := flat_roots (joined_spec h).2 (by rw [joined_length h]; exact mayB_len h.may)
/-! ### how many sets there are -/
def cnt (f : Nat → Bool) : Nat → Nat
  | 0 => 0
  | n + 1 => cnt f n + if f n then 1 else 0
theorem cnt_congr {f g : Nat → Bool} : ∀ {n : Nat}, (∀ i, i < n → f i = g i) → cnt f n = cnt g n
  | 0, _ => rfl
  | n + 1, h => by
    unfold cnt
    rw [cnt_congr (fun i hi => h i (by omega)), h n (by omega)]
theorem cnt_drop {f g : Nat → Bool} (m : Nat) (hf : f m = true) (hg : g m = false) : ∀ {n : Nat}, m < n → (∀ i, i < n → i ≠ m → f i = g i) → cnt f n = cnt g n + 1
  | 0, h, _ => absurd h (by omega)
  | n + 1, hm, h => by
    unfold cnt
    by_cases e : m = n
    · subst e
      rw [cnt_congr (fun i hi => h i (by omega) (by omega)), hf, hg]
      simp
    · rw [cnt_drop m hf hg (n := n) (by omega) (fun i hi hne => h i (by omega) hne), h n (by omega) (by omega)]
      omega
theorem cnt_le (f : Nat → Bool) : ∀ n, cnt f n ≤ n
  | 0 => Nat.le_refl _
  | n + 1 => by have := cnt_le f n; unfold cnt; split <;> omega
/-- How many sets there are. -/
def sets (p : List Int) : Nat := cnt (fun i => decide (rootN p i = i)) p.length
theorem joined_sets {p : List Int} {a b : Int} (h : Joined p a b) : sets p = sets (joinP p a b) + if rootN p a.toNat = rootN p b.toNat then 0 else 1 := by
  have hA : a.toNat < p.length := by have := h.a0; have := h.al; omega
  have hB : b.toNat < p.length := by have := h.b0; have := h.bl; omega
  have hra := rootN_idem h.may hA
  have hrb := rootN_idem h.may hB
  have hla := rootN_le h.may hA
  have hlb := rootN_le h.may hB
  unfold sets
  rw [joined_length h]
  have hroot := fun i hi => joined_root h (i := i) hi
  generalize rootN p a.toNat = x at *
  generalize rootN p b.toNat = y at *
  split
  · rename_i e
    subst e
    rw [Nat.add_zero]
    refine cnt_congr fun i hi => ?_
    rw [hroot i hi]
    unfold J
    by_cases hc : rootN p i = max x x
    · rw [if_pos hc]
      have : min x x = rootN p i := by omega
      rw [this]
    · rw [if_neg hc]
  · rename_i hne
    refine cnt_drop (max x y) ?_ ?_ (by omega) ?_
    · rw [decide_eq_true_eq]
      rcases Nat.le_total x y with hxy | hxy
      · rw [Nat.max_eq_right hxy]; exact hrb
      · rw [Nat.max_eq_left hxy]; exact hra
    · rw [decide_eq_false_iff_not, hroot _ (by omega)]
      have : rootN p (max x y) = max x y := by
        rcases Nat.le_total x y with hxy | hxy
        · rw [Nat.max_eq_right hxy]; exact hrb
        · rw [Nat.max_eq_left hxy]; exact hra
      rw [this]
      unfold J
      rw [if_pos rfl]
      omega
    · intro i hi hn
      rw [hroot i hi]
      have hli := rootN_le h.may hi
      have hri := rootN_idem h.may hi
      have hmin : rootN p (min x y) = min x y := by
        rcases Nat.le_total x y with hxy | hxy
        · rw [Nat.min_eq_left hxy]; exact hra
        · rw [Nat.min_eq_right hxy]; exact hrb
      rw [Bool.eq_iff_iff, decide_eq_true_eq, decide_eq_true_eq]
      unfold J
      by_cases hc : rootN p i = max x y
      · rw [if_pos hc]
        constructor
        · intro e; omega
        · intro e
          rw [← e] at hc
          rw [hmin] at hc
          omega
      · rw [if_neg hc]

/-! ### what the printed functions come to -/
theorem may_k (p : List Int) (k : Nat) (hp : p.length ≤ 9223372036854775807) (hk : p.length < k) : sets_May.f k p = some (mayB p) := by
  unfold sets_May.f
  exact may_loop p hp p.length k 0 (by omega) (by omega) (fun j hj => by omega)
theorem rd_getD (l : List Int) (n : Nat) : rd l (n : Int) = l.getD n 0 := by simp [rd]
theorem ints_loop (a b : List Int) (hl : a.length = b.length) (ha : a.length ≤ 9223372036854775807) (d : Nat) : ∀ (k i : Nat), i + d = a.length → d < k → (∀ j, j < i → a.getD j 0 = b.getD j 0) →
    roadbookref02_Ints.l0 k a b (i : Int) = some (decide (a = b)) := by
  induction d with
  | zero =>
    intro k i hi hk hj
    obtain ⟨k, rfl⟩ : ∃ m, k = m + 1 := ⟨k - 1, by omega⟩
    simp only [roadbookref02_Ints.l0]
    rw [if_neg (by omega), decide_eq_true (ext_getD hl (fun j h => hj j (by omega)))]
  | succ d ih =>
    intro k i hi hk hj
    obtain ⟨k, rfl⟩ : ∃ m, k = m + 1 := ⟨k - 1, by omega⟩
    simp only [roadbookref02_Ints.l0]
    rw [if_pos (by omega), if_pos (by omega), if_pos (by omega), rd_getD, rd_getD]
    by_cases h : a.getD i 0 = b.getD i 0
    · rw [if_pos h, wrap_in (by omega) (by omega)]
      refine ih k (i + 1) (by omega) (by omega) fun j hj' => ?_
      rcases Nat.lt_or_ge j i with h1 | h1
      · exact hj j h1
      · obtain rfl : j = i := by omega
        exact h
    · rw [if_neg h, decide_eq_false (fun e => h (by rw [e]))]
theorem ints_k (a b : List Int) (k : Nat) (ha : a.length ≤ 9223372036854775807) (hk : a.length < k) : roadbookref02_Ints.f k a b = some (decide (a = b)) := by
  unfold roadbookref02_Ints.f
  by_cases hl : a.length = b.length
  · rw [if_pos (by omega)]
    exact ints_loop a b hl ha a.length k 0 (by omega) hk (fun j hj => by omega)
  · rw [if_neg (by omega), decide_eq_false (fun e => hl (by rw [e]))]
theorem equal_loop (a b : List Int) (hl : a.length = b.length) (ha : a.length ≤ 9223372036854775807) (d : Nat) : ∀ (k i : Nat), i + d = a.length → d < k → (∀ j, j < i → a.getD j 0 = b.getD j 0) →
    slices_Equal_int_int.l0 k a b (a.length : Int) (i : Int) = some (decide (a = b)) := by
  induction d with
  | zero =>
    intro k i hi hk hj
    obtain ⟨k, rfl⟩ : ∃ m, k = m + 1 := ⟨k - 1, by omega⟩
    simp only [slices_Equal_int_int.l0]
    rw [if_neg (by omega), decide_eq_true (ext_getD hl (fun j h => hj j (by omega)))]
  | succ d ih =>
    intro k i hi hk hj
    obtain ⟨k, rfl⟩ : ∃ m, k = m + 1 := ⟨k - 1, by omega⟩
    simp only [slices_Equal_int_int.l0]
    rw [if_pos (by omega), if_pos (by omega), if_pos (by omega), if_pos (by omega), rd_getD, rd_getD]
    by_cases h : a.getD i 0 = b.getD i 0
    · rw [if_pos h, wrap_in (by omega) (by omega)]
      refine ih k (i + 1) (by omega) (by omega) fun j hj' => ?_
      rcases Nat.lt_or_ge j i with h1 | h1
      · exact hj j h1
      · obtain rfl : j = i := by omega
        exact h
    · rw [if_neg h, decide_eq_false (fun e => h (by rw [e]))]
theorem equal_k (a b : List Int) (k : Nat) (ha : a.length ≤ 9223372036854775807) (hk : a.length < k) : slices_Equal_int_int.f k a b = some (decide (a = b)) := by
  unfold slices_Equal_int_int.f
  by_cases hl : a.length = b.length
  · rw [if_pos (by omega)]
    exact equal_loop a b hl ha a.length k 0 (by omega) hk (fun j hj => by omega)
  · rw [if_neg (by omega), decide_eq_false (fun e => hl (by rw [e]))]
def sameB (p q : List Int) : Bool := mayB p && mayB q && decide (rootsS p = rootsS q)
theorem rootsS_len (p : List Int) : (rootsS p).length ≤ p.length := by
  unfold rootsS; split <;> simp
theorem same_k (p q : List Int) (k : Nat) (hp : p.length ≤ 9223372036854775807) (hq : q.length ≤ 9223372036854775807) (h1 : p.length < k) (h2 : q.length < k) : sets_Same.f k p q = some (sameB p q) := by
  unfold sets_Same.f sameB
  have := rootsS_len p
  rw [may_k p k hp h1, may_k q k hq h2]
  simp only [Option.bind_some]
  cases mayB p
  · rfl
  · cases mayB q
    · rfl
    · simp only [if_true, sets_Roots.f, Option.bind_some, Bool.and_self, Bool.true_and]
      rw [equal_k _ _ k (by omega) (by omega)]
      rfl
end Go.Proofs.Ytkidnomkfdnciaa.All
