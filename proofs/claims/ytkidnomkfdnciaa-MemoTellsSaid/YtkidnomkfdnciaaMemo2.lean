/- What the printed functions of the package memo come to, and plain facts on looking up. Nothing is proved of the program here. -/
import Derived.Test.YtkidnomkfdnciaaMemo
import Derived.Test.YtkidnomkfdnciaaAllx17
import Derived.Test.YtkidnomkfdnciaaAllx18
import Derived.Test.YtkidnomkfdnciaaAllx49
namespace Go.Proofs.Ytkidnomkfdnciaa.All
open Go.RowKit Go.Proofs.YtkidnomkfdnciaaW.PrintWords

/-- What fits: as many nodes, and groups, as there can be. -/
structure Lim (N : List S48) (G P : List Int) : Prop where
  n : N.length * 32 ≤ 140737488351232
  g : G.length * 8 ≤ 140737488351232
  p : P.length * 8 ≤ 140737488351232
section
variable {N : List S48} {G P : List Int}
theorem Lim.lim3 (h : Lim N G P) : lim3 N G P = true := by
  have h1 := h.n
  have h2 := h.g
  have h3 := h.p
  unfold All.lim3 limN limI
  simp only [Bool.and_eq_true, decide_eq_true_eq]
  omega
theorem form_Lim (h : formB N G P = true) : Lim N G P := by
  obtain ⟨hm, hGN, hNl, _⟩ := formB_parts h
  have := mayB_len hm
  exact ⟨by omega, by omega, by omega⟩
theorem may_form (h : mayMB N G P = true) : formB N G P = true := (mayM_iff.1 h).1
theorem may_closed (h : mayMB N G P = true) : Closed N G P := (mayM_iff.1 h).2
theorem may_P (h : mayMB N G P = true) : mayB P = true := (formB_parts (may_form h)).1
theorem may_Lim (h : mayMB N G P = true) : Lim N G P := form_Lim (may_form h)
theorem may_lenP (h : mayMB N G P = true) : P.length ≤ 400 := mayB_len (may_P h)
theorem may_lenN (h : mayMB N G P = true) : N.length ≤ 400 := (formB_parts (may_form h)).2.2.1
theorem may_lenG (h : mayMB N G P = true) : G.length = N.length := (formB_parts (may_form h)).2.1
end
/-- What Merge tells: which groups are one then, the group, and the error. -/
def mergeT (N : List S48) (G P : List Int) (a b : Int) : List Int × Int × Int :=
  if (mayMB N G P && (inB P a && inB P b)) = true then (mergeP N G P a b, findS (mergeP N G P a b) a, 0) else (P, -1, 1)
structure Mer (N : List S48) (G P : List Int) (a b : Int) : Prop where
  may : mayMB N G P = true
  a : inB P a = true
  b : inB P b = true
theorem mer_cases (N : List S48) (G P : List Int) (a b : Int) : mergeT N G P a b = (P, -1, 1) ∨ (Mer N G P a b ∧ mergeT N G P a b = (mergeP N G P a b, findS (mergeP N G P a b) a, 0)) := by
  unfold mergeT
  by_cases h : (mayMB N G P && (inB P a && inB P b)) = true
  · rw [if_pos h]
    simp only [Bool.and_eq_true] at h
    exact .inr ⟨⟨h.1, h.2.1, h.2.2⟩, rfl⟩
  · rw [if_neg h]; exact .inl rfl
theorem Mer.eq {N : List S48} {G P : List Int} {a b : Int} (h : Mer N G P a b) : mergeT N G P a b = (mergeP N G P a b, findS (mergeP N G P a b) a, 0) := by
  unfold mergeT
  rw [h.may, h.a, h.b]
  rfl
section
variable {N : List S48} {G P : List Int} {a b : Int}
theorem merge_k (h : Lim N G P) {k : Nat} (hk : 401 ≤ k) : memo_Merge.f k N G P a b = some (N, G, (mergeT N G P a b).1, (mergeT N G P a b).2.1, (mergeT N G P a b).2.2) := by
  unfold memo_Merge.f mergeT
  by_cases hc : (mayMB N G P && (inB P a && inB P b)) = true
  · rw [if_pos hc, if_pos hc]
    simp only [Bool.and_eq_true] at hc
    rw [mergeO_k (may_form hc.1) hc.2.1 hc.2.2 hk]
    rfl
  · rw [if_neg hc, if_neg hc, if_pos h.lim3]
theorem Mer.spec (h : Mer N G P a b) : Merged N G P a b (mergeP N G P a b) := merged (may_form h.may) h.a h.b
theorem Mer.len (h : Mer N G P a b) : (mergeP N G P a b).length = P.length := h.spec.le.len
theorem Mer.after (h : Mer N G P a b) : mayMB N G (mergeP N G P a b) = true := mayM_iff.2 ⟨form_same (may_form h.may) h.spec.may h.len, h.spec.closed⟩
theorem Mer.inB (h : Mer N G P a b) (g : Int) : inB (mergeP N G P a b) g = inB P g := inB_of_len h.len g
theorem Mer.find (h : Mer N G P a b) {g : Int} (hg : All.inB P g = true) : findS (mergeP N G P a b) (findS P g) = findS (mergeP N G P a b) g := h.spec.le.find (may_P h.may) h.spec.may hg
end
/-! ### Look and Canon -/
section
variable {N : List S48} {G P : List Int} {n : S48}
theorem look_some (h : mayMB N G P = true) (hn : nodeB P n = true) {i : Nat} (hi : i < N.length) (he : canonS (rootsS P) (N.getD i z48) = canonS (rootsS P) n) : lookS N G P n = (findS P (G.getD i 0), true) := by
  unfold lookS
  rw [h, hn]
  simp only [Bool.and_self, if_true]
  obtain ⟨j, hj, hji, hje⟩ := posN_is (cs := canonsS N P) hi
  rw [canons_at N P hi, he] at hj
  rw [hj]
  dsimp only
  rw [canons_at N P hi, canons_at N P (by omega)] at hje
  rw [may_closed h j i (by omega) hi hje]
theorem look_none (h : mayMB N G P = true) (hn : nodeB P n = true) (hno : ∀ i, i < N.length → canonS (rootsS P) (N.getD i z48) ≠ canonS (rootsS P) n) : lookS N G P n = (-1, false) := by
  unfold lookS
  rw [h, hn]
  simp only [Bool.and_self, if_true]
  cases hp : posN (canonsS N P) (canonS (rootsS P) n) N.length with
  | none => rfl
  | some j =>
    obtain ⟨a, b, _⟩ := (posN_spec _ _ _).1 j hp
    rw [canons_at N P a] at b
    exact absurd b (hno j a)
theorem look_no (h : mayMB N G P = false ∨ nodeB P n = false) : lookS N G P n = (-1, false) := by
  unfold lookS
  rw [if_neg]
  rcases h with h | h <;> rw [h] <;> simp
theorem look_cases (N : List S48) (G P : List Int) (n : S48) : (lookS N G P n = (-1, false) ∧ (mayMB N G P = true → nodeB P n = true → ∀ i, i < N.length → canonS (rootsS P) (N.getD i z48) ≠ canonS (rootsS P) n)) ∨
    (mayMB N G P = true ∧ nodeB P n = true ∧ ∃ i, i < N.length ∧ canonS (rootsS P) (N.getD i z48) = canonS (rootsS P) n ∧ lookS N G P n = (findS P (G.getD i 0), true)) := by
  cases hm : mayMB N G P with
  | false => exact .inl ⟨look_no (.inl hm), fun h => by cases h⟩
  | true =>
    cases hn : nodeB P n with
    | false => exact .inl ⟨look_no (.inr hn), fun _ h => by cases h⟩
    | true =>
      cases hp : posN (canonsS N P) (canonS (rootsS P) n) N.length with
      | none =>
        have hno : ∀ i, i < N.length → canonS (rootsS P) (N.getD i z48) ≠ canonS (rootsS P) n := fun i hi => by
          have := (posN_spec _ _ _).2 hp i hi
          rw [canons_at N P hi] at this
          exact this
        exact .inl ⟨look_none hm hn hno, fun _ _ => hno⟩
      | some j =>
        obtain ⟨a, b, _⟩ := (posN_spec _ _ _).1 j hp
        rw [canons_at N P a] at b
        exact .inr ⟨rfl, rfl, j, a, b, look_some hm hn a b⟩
end
def fewB (N : List S48) (G P : List Int) (m : Int) : Bool := decide ((N.length : Int) ≤ m) && (decide ((G.length : Int) ≤ m) && decide ((P.length : Int) ≤ m))
theorem few_k (N : List S48) (G P : List Int) (m : Int) : roadbooklaw16_few.f N G P m = some (fewB N G P m) := by
  unfold roadbooklaw16_few.f fewB
  by_cases h1 : (N.length : Int) ≤ m
  · by_cases h2 : (G.length : Int) ≤ m
    · simp [h1, h2]
    · simp [h1, h2]
  · simp [h1]
theorem ext48 {a b : List S48} (hl : a.length = b.length) (h : ∀ i, i < a.length → a.getD i z48 = b.getD i z48) : a = b := by
  apply List.ext_getElem hl
  intro i h1 h2
  have := h i h1
  simpa [List.getD_eq_getElem?_getD, List.getElem?_eq_getElem h1, List.getElem?_eq_getElem h2] using this
theorem rd48 (l : List S48) (n : Nat) : rd_T48 l (n : Int) = l.getD n z48 := by simp [rd_T48]
theorem ne48 (x y : S48) : (!((x.f0) == (y.f0)) || (!((x.f1) == (y.f1)) || (!((x.f2) == (y.f2)) || (!((x.f3) == (y.f3)))))) = !decide (x = y) := by
  by_cases h : x = y
  · subst h; simp
  · rw [decide_eq_false h]
    obtain ⟨a, b, c, d⟩ := x
    obtain ⟨a', b', c', d'⟩ := y
    dsimp only
    cases h1 : (a == a') with
    | false => rfl
    | true =>
      cases h2 : (b == b') with
      | false => rfl
      | true =>
        cases h3 : (c == c') with
        | false => rfl
        | true =>
          cases h4 : (d == d') with
          | false => rfl
          | true =>
            exfalso
            rw [beq_iff_eq] at h1 h2 h3 h4
            subst h1 h2 h3 h4
            exact h rfl
theorem nodes_loop (a b : List S48) (hl : a.length = b.length) (ha : a.length ≤ 9223372036854775807) (d : Nat) : ∀ (k i : Nat), i + d = a.length → d < k → (∀ j, j < i → a.getD j z48 = b.getD j z48) →
    api_Node_80.l0 k a b (a.length : Int) (i : Int) = some (decide (a = b)) := by
  induction d with
  | zero =>
    intro k i hi hk hj
    obtain ⟨k, rfl⟩ : ∃ m, k = m + 1 := ⟨k - 1, by omega⟩
    simp only [api_Node_80.l0]
    rw [if_neg (by omega), decide_eq_true (ext48 hl (fun j h => hj j (by omega)))]
  | succ d ih =>
    intro k i hi hk hj
    obtain ⟨k, rfl⟩ : ∃ m, k = m + 1 := ⟨k - 1, by omega⟩
    simp only [api_Node_80.l0]
    rw [if_pos (by omega), if_pos (by omega), if_pos (by omega), if_pos (by omega), rd48, rd48, ne48]
    by_cases h : a.getD i z48 = b.getD i z48
    · rw [decide_eq_true h, wrap_in (by omega) (by omega)]
      simp only [Bool.not_true, Bool.false_eq_true, if_false]
      refine ih k (i + 1) (by omega) (by omega) fun j hj' => ?_
      rcases Nat.lt_or_ge j i with h1 | h1
      · exact hj j h1
      · obtain rfl : j = i := by omega
        exact h
    · rw [decide_eq_false h, decide_eq_false (fun e => h (by rw [e]))]
      rfl
theorem nodes_k (a b : List S48) (k : Nat) (ha : a.length ≤ 9223372036854775807) (hk : a.length < k) : api_Node_80.f k a b = some (decide (a = b)) := by
  unfold api_Node_80.f
  by_cases hl : a.length = b.length
  · rw [if_pos (by omega)]
    exact nodes_loop a b hl ha a.length k 0 (by omega) hk (fun j hj => by omega)
  · rw [if_neg (by omega), decide_eq_false (fun e => hl (by rw [e]))]
def sameM (N : List S48) (G P : List Int) (N' : List S48) (G' P' : List Int) : Bool := decide (N = N') && (decide (G = G') && sameB P P')
theorem msame_k {N : List S48} {G P : List Int} {N' : List S48} {G' P' : List Int} {k : Nat} (h1 : N.length < 2000) (h2 : G.length < 2000) (h3 : P.length < 2000) (h4 : P'.length < 2000) (hk : 2000 ≤ k) : memo_Same.f k N G P N' G' P' = some (sameM N G P N' G' P') := by
  unfold memo_Same.f sameM
  rw [nodes_k _ _ k (by omega) (by omega), equal_k _ _ k (by omega) (by omega), same_k _ _ k (by omega) (by omega) (by omega) (by omega)]
  simp only [Option.bind_some]
  cases decide (N = N') with
  | false => rfl
  | true =>
    cases decide (G = G') with
    | false => rfl
    | true => rfl
theorem look_f (N : List S48) (G P : List Int) (n : S48) : memo_Look.f N G P n.f0 n.f1 n.f2 n.f3 = some (lookS N G P n) := rfl
theorem eq48 (x y : S48) : ((x.f0 == y.f0) && ((x.f1 == y.f1) && ((x.f2 == y.f2) && (x.f3 == y.f3)))) = decide (x = y) := by
  have := ne48 x y
  by_cases h : x = y
  · subst h; simp
  · rw [decide_eq_false h]
    obtain ⟨a, b, c, d⟩ := x
    obtain ⟨a', b', c', d'⟩ := y
    dsimp only
    rw [Bool.eq_false_iff]
    intro hh
    simp only [Bool.and_eq_true, beq_iff_eq] at hh
    obtain ⟨rfl, rfl, rfl, rfl⟩ := hh
    exact h rfl
end Go.Proofs.Ytkidnomkfdnciaa.All
