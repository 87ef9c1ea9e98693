/- Plain facts on memos: which groups are one, what merging comes to. Nothing is proved of the program here. -/
import Derived.Test.YtkidnomkfdnciaaAllx13
namespace Go.Proofs.Ytkidnomkfdnciaa.All
open Go.RowKit Go.Proofs.YtkidnomkfdnciaaW.PrintWords

/-! ### finer and coarser sets -/
/-- What is one in P is one in Q. -/
structure LeP (P Q : List Int) : Prop where
  len : Q.length = P.length
  root : ∀ i, i < P.length → rootN Q (rootN P i) = rootN Q i
theorem root_lt {P : List Int} (hm : mayB P = true) {i : Nat} (hi : i < P.length) : rootN P i < P.length := Nat.lt_of_le_of_lt (rootN_le hm hi) hi
theorem LeP.refl {P : List Int} (h : mayB P = true) : LeP P P := ⟨rfl, fun _ hi => rootN_idem h hi⟩
theorem LeP.trans {P Q R : List Int} (hP : mayB P = true) (h1 : LeP P Q) (h2 : LeP Q R) : LeP P R := ⟨h2.len.trans h1.len, fun i hi => by
  have a := h2.root i (by rw [h1.len]; exact hi)
  have b := h2.root (rootN P i) (by rw [h1.len]; exact root_lt hP hi)
  rw [h1.root i hi] at b
  exact b.symm.trans a⟩
theorem LeP.one {P Q : List Int} (h : LeP P Q) {i j : Nat} (hi : i < P.length) (hj : j < P.length) (e : rootN P i = rootN P j) : rootN Q i = rootN Q j := by
  rw [← h.root i hi, ← h.root j hj, e]
theorem join_le {P : List Int} {a b : Int} (h : Joined P a b) : LeP P (joinP P a b) := ⟨joined_length h, fun i hi => by
  rw [joined_root h (root_lt h.may hi), joined_root h hi, rootN_idem h.may hi]⟩
theorem join_two {P : List Int} {a b : Int} (h : Joined P a b) : rootN (joinP P a b) a.toNat = rootN (joinP P a b) b.toNat := by
  rw [joined_root h h.na, joined_root h h.nb]
  exact (J_one _ _ _ _).2 (.inr ⟨.inl rfl, .inr rfl⟩)
theorem join_least {P R : List Int} {a b : Int} (h : Joined P a b) (h1 : LeP P R) (h2 : rootN R a.toNat = rootN R b.toNat) : LeP (joinP P a b) R := ⟨h1.len.trans (joined_length h).symm, fun i hi => by
  rw [joined_length h] at hi
  rw [joined_root h hi]
  have ha := h1.root _ h.na
  have hb := h1.root _ h.nb
  have hi' := h1.root i hi
  rcases J_cases (rootN P a.toNat) (rootN P b.toNat) (rootN P i) with ⟨c, e⟩ | ⟨c, e⟩
  · rw [e]
    have : rootN R (min (rootN P a.toNat) (rootN P b.toNat)) = rootN R a.toNat := by
      rcases Nat.le_total (rootN P a.toNat) (rootN P b.toNat) with hxy | hxy
      · rw [Nat.min_eq_left hxy, ha]
      · rw [Nat.min_eq_right hxy, hb, h2]
    rw [this, ← hi']
    rcases c with c | c
    · rw [c, ha]
    · rw [c, hb, h2]
  · rw [e]; exact hi'⟩

/-! ### groups by their numbers -/
theorem inB_iff {P : List Int} {g : Int} : inB P g = true ↔ 0 ≤ g ∧ g < P.length := by
  unfold inB
  rw [Bool.and_eq_true, decide_eq_true_eq, decide_eq_true_eq]
theorem inB_nat {P : List Int} {g : Int} (h : inB P g = true) : g.toNat < P.length := by
  have := inB_iff.1 h; omega
theorem find_in {P : List Int} (hm : mayB P = true) {g : Int} (h : inB P g = true) : findS P g = ((rootN P g.toNat : Nat) : Int) := by
  have := inB_iff.1 h
  exact findS_in hm this.1 this.2
theorem find_bd {P : List Int} (hm : mayB P = true) {g : Int} (h : inB P g = true) : inB P (findS P g) = true ∧ findS P g ≤ g := by
  have h0 := inB_iff.1 h
  have := root_lt hm (inB_nat h)
  have h2 := rootN_le hm (inB_nat h)
  rw [find_in hm h]
  exact ⟨inB_iff.2 ⟨by omega, by omega⟩, by omega⟩
theorem find_not {P : List Int} {g : Int} (h : mayB P = false ∨ inB P g = false) : findS P g = -1 := by
  unfold findS
  rw [if_neg]
  rcases h with h | h <;> rw [h] <;> simp
theorem find_neg {P : List Int} (g : Int) : findS P g = -1 ∨ 0 ≤ findS P g := by
  by_cases h : mayB P = true ∧ inB P g = true
  · right; rw [find_in h.1 h.2]; omega
  · left
    apply find_not
    cases hm : mayB P with
    | false => exact .inl rfl
    | true => right; rw [hm] at h; simpa using h
theorem rd_roots {P : List Int} (hm : mayB P = true) {g : Int} (h : inB P g = true) : rd (rootsS P) g = findS P g := by
  rw [find_in hm h]
  unfold rd
  exact rootsS_at hm (inB_nat h)
section
variable {P Q : List Int}
theorem LeP.inB (h : LeP P Q) (g : Int) : inB Q g = inB P g := inB_of_len h.len g
theorem LeP.find (hP : mayB P = true) (hQ : mayB Q = true) (h : LeP P Q) {g : Int} (hg : All.inB P g = true) : findS Q (findS P g) = findS Q g := by
  have h1 := (find_bd hP hg).1
  rw [find_in hQ (by rw [h.inB]; exact h1), find_in hQ (by rw [h.inB]; exact hg), find_in hP hg, Int.toNat_natCast, h.root _ (inB_nat hg)]
theorem LeP.same (hP : mayB P = true) (hQ : mayB Q = true) (h : LeP P Q) {g g' : Int} (hg : All.inB P g = true) (hg' : All.inB P g' = true) (e : findS P g = findS P g') : findS Q g = findS Q g' := by
  rw [← h.find hP hQ hg, ← h.find hP hQ hg', e]
end

/-! ### nodes -/
section
variable {P Q : List Int} {n : S48}
theorem node_join (h : nodeB P n = true) (hj : n.f0 = true) : n.f1 = 0 ∧ inB P n.f2 = true ∧ inB P n.f3 = true := by
  unfold nodeB at h
  rw [if_pos hj] at h
  simp only [Bool.and_eq_true, decide_eq_true_eq] at h
  exact h
theorem canon_not (R : List Int) (hj : n.f0 = false) : canonS R n = n := by
  unfold canonS; rw [if_neg (by rw [hj]; decide)]
theorem canon_join (hm : mayB P = true) (h : nodeB P n = true) (hj : n.f0 = true) : canonS (rootsS P) n = ⟨true, n.f1, findS P n.f2, findS P n.f3⟩ := by
  obtain ⟨_, h2, h3⟩ := node_join h hj
  unfold canonS
  rw [if_pos hj, rd_roots hm h2, rd_roots hm h3, hj]
theorem canon_node (hm : mayB P = true) (h : nodeB P n = true) : nodeB P (canonS (rootsS P) n) = true := by
  cases hj : n.f0 with
  | false => rw [canon_not _ hj]; exact h
  | true =>
    obtain ⟨h1, h2, h3⟩ := node_join h hj
    rw [canon_join hm h hj]
    unfold nodeB
    rw [if_pos rfl, (find_bd hm h2).1, (find_bd hm h3).1, h1]
    rfl
theorem node_len (hl : Q.length = P.length) (n : S48) : nodeB Q n = nodeB P n := by unfold nodeB; rw [inB_of_len hl, inB_of_len hl]
theorem canon_canon (hP : mayB P = true) (hQ : mayB Q = true) (h : LeP P Q) (hn : nodeB P n = true) : canonS (rootsS Q) (canonS (rootsS P) n) = canonS (rootsS Q) n := by
  cases hj : n.f0 with
  | false => rw [canon_not (rootsS P) hj]
  | true =>
    obtain ⟨h1, h2, h3⟩ := node_join hn hj
    have hc := canon_node hP hn
    rw [canon_join hQ (by rw [node_len h.len]; exact hn) hj]
    rw [canon_join hP hn hj] at hc ⊢
    rw [canon_join hQ (by rw [node_len h.len]; exact hc) rfl]
    dsimp only
    rw [h.find hP hQ h2, h.find hP hQ h3]
theorem canon_le (hP : mayB P = true) (hQ : mayB Q = true) (h : LeP P Q) {n' : S48} (hn : nodeB P n = true) (hn' : nodeB P n' = true) (e : canonS (rootsS P) n = canonS (rootsS P) n') : canonS (rootsS Q) n = canonS (rootsS Q) n' := by
  rw [← canon_canon hP hQ h hn, ← canon_canon hP hQ h hn', e]
end

/-! ### the first place of a node -/
theorem posN_spec (cs : List S48) (x : S48) : ∀ k, (∀ i, posN cs x k = some i → i < k ∧ cs.getD i z48 = x ∧ ∀ j, j < i → cs.getD j z48 ≠ x) ∧ (posN cs x k = none → ∀ j, j < k → cs.getD j z48 ≠ x)
  | 0 => ⟨fun i h => (by cases h), fun _ j h => by omega⟩
  | k + 1 => by
    obtain ⟨h1, h2⟩ := posN_spec cs x k
    unfold posN
    cases hp : posN cs x k with
    | some i =>
      obtain ⟨a, b, c⟩ := h1 i hp
      exact ⟨fun j hj => by obtain rfl := Option.some.inj hj; exact ⟨by omega, b, c⟩, fun h => (by cases h)⟩
    | none =>
      have h2 := h2 hp
      dsimp only
      by_cases he : cs.getD k z48 = x
      · rw [if_pos he]
        exact ⟨fun j hj => by obtain rfl := Option.some.inj hj; exact ⟨by omega, he, h2⟩, fun h => (by cases h)⟩
      · rw [if_neg he]
        refine ⟨fun j hj => (by cases hj), fun _ j hj => ?_⟩
        rcases Nat.lt_or_ge j k with h | h
        · exact h2 j h
        · obtain rfl : j = k := by omega
          exact he
theorem posN_of (cs : List S48) (x : S48) {k i : Nat} (hi : i < k) (he : cs.getD i z48 = x) (hf : ∀ j, j < i → cs.getD j z48 ≠ x) : posN cs x k = some i := by
  obtain ⟨h1, h2⟩ := posN_spec cs x k
  cases hp : posN cs x k with
  | none => exact absurd he (h2 hp i hi)
  | some j =>
    obtain ⟨a, b, c⟩ := h1 j hp
    rcases Nat.lt_trichotomy i j with h | h | h
    · exact absurd he (c i h)
    · rw [h]
    · exact absurd b (hf j h)
theorem posN_up (cs : List S48) (x : S48) {k m i : Nat} (h : posN cs x k = some i) (hk : k ≤ m) : posN cs x m = some i := by
  obtain ⟨a, b, c⟩ := (posN_spec cs x k).1 i h
  exact posN_of cs x (by omega) b c
theorem posN_is {cs : List S48} {n k : Nat} (h : k < n) : ∃ i, posN cs (cs.getD k z48) n = some i ∧ i ≤ k ∧ cs.getD i z48 = cs.getD k z48 := by
  obtain ⟨h1, h2⟩ := posN_spec cs (cs.getD k z48) n
  cases hp : posN cs (cs.getD k z48) n with
  | none => exact absurd rfl (h2 hp k h)
  | some i =>
    obtain ⟨a, b, c⟩ := h1 i hp
    refine ⟨i, rfl, ?_, b⟩
    rcases Nat.lt_or_ge k i with h' | h'
    · exact absurd rfl (c k h')
    · exact h'

/-! ### closed -/
theorem confN_none {cs : List S48} {G R : List Int} : ∀ {d k : Nat}, confN cs G R d k = none ↔ ∀ j, k ≤ j → j < k + d → ∀ i, posN cs (cs.getD j z48) j = some i → rd R (G.getD i 0) = rd R (G.getD j 0)
  | 0, k => ⟨fun _ j h1 h2 => by omega, fun _ => rfl⟩
  | d + 1, k => by
    unfold confN
    have ih := @confN_none cs G R d (k + 1)
    cases hp : posN cs (cs.getD k z48) k with
    | none =>
      dsimp only
      rw [ih]
      constructor
      · intro h j h1 h2 i hi
        rcases Nat.lt_or_ge k j with h3 | h3
        · exact h j (by omega) (by omega) i hi
        · obtain rfl : j = k := by omega
          rw [hp] at hi; cases hi
      · intro h j h1 h2 i hi
        exact h j (by omega) (by omega) i hi
    | some i0 =>
      dsimp only
      by_cases he : rd R (G.getD i0 0) = rd R (G.getD k 0)
      · rw [if_pos he, ih]
        constructor
        · intro h j h1 h2 i hi
          rcases Nat.lt_or_ge k j with h3 | h3
          · exact h j (by omega) (by omega) i hi
          · obtain rfl : j = k := by omega
            rw [hp] at hi; obtain rfl := Option.some.inj hi; exact he
        · intro h j h1 h2 i hi
          exact h j (by omega) (by omega) i hi
      · rw [if_neg he]
        constructor
        · intro h; cases h
        · intro h; exact absurd (h k (by omega) (by omega) i0 hp) he
theorem confN_at {cs : List S48} {G R : List Int} : ∀ {d k : Nat} {x y : Int}, confN cs G R d k = some (x, y) → ∃ i j, k ≤ j ∧ j < k + d ∧ posN cs (cs.getD j z48) j = some i ∧ x = G.getD i 0 ∧ y = G.getD j 0 ∧ rd R x ≠ rd R y ∧
      ∀ j', k ≤ j' → j' < j → ∀ i', posN cs (cs.getD j' z48) j' = some i' → rd R (G.getD i' 0) = rd R (G.getD j' 0)
  | 0, k, x, y, h => by cases h
  | d + 1, k, x, y, h => by
    unfold confN at h
    cases hp : posN cs (cs.getD k z48) k with
    | none =>
      rw [hp] at h
      obtain ⟨i, j, h1, h2, h3, h4, h5, h6, h7⟩ := confN_at (d := d) (k := k + 1) h
      refine ⟨i, j, by omega, by omega, h3, h4, h5, h6, fun j' a b i' hi' => ?_⟩
      rcases Nat.lt_or_ge k j' with h8 | h8
      · exact h7 j' (by omega) b i' hi'
      · obtain rfl : j' = k := by omega
        rw [hp] at hi'; cases hi'
    | some i0 =>
      rw [hp] at h
      dsimp only at h
      split at h
      · rename_i he
        obtain ⟨i, j, h1, h2, h3, h4, h5, h6, h7⟩ := confN_at (d := d) (k := k + 1) h
        refine ⟨i, j, by omega, by omega, h3, h4, h5, h6, fun j' a b i' hi' => ?_⟩
        rcases Nat.lt_or_ge k j' with h8 | h8
        · exact h7 j' (by omega) b i' hi'
        · obtain rfl : j' = k := by omega
          rw [hp] at hi'; obtain rfl := Option.some.inj hi'; exact he
      · rename_i he
        obtain ⟨rfl, rfl⟩ := Prod.mk.inj (Option.some.inj h)
        exact ⟨i0, k, Nat.le_refl _, by omega, hp, rfl, rfl, he, fun j' a b => by omega⟩
/-- No Canon is of two groups. -/
def Closed (N : List S48) (G P : List Int) : Prop := ∀ i k, i < N.length → k < N.length → canonS (rootsS P) (N.getD i z48) = canonS (rootsS P) (N.getD k z48) → findS P (G.getD i 0) = findS P (G.getD k 0)
theorem canons_at (N : List S48) (P : List Int) {k : Nat} (h : k < N.length) : (canonsS N P).getD k z48 = canonS (rootsS P) (N.getD k z48) := by
  unfold canonsS
  simp [List.getD_eq_getElem?_getD, List.getElem?_map, List.getElem?_eq_getElem h]
section
variable {N : List S48} {G P Q : List Int}
theorem form_G (hf : formB N G P = true) {i : Nat} (hi : i < N.length) : inB P (G.getD i 0) = true := (formB_parts hf).2.2.2.1 i (by rw [(formB_parts hf).2.1]; exact hi)
theorem form_N (hf : formB N G P = true) {i : Nat} (hi : i < N.length) : nodeB P (N.getD i z48) = true := (formB_parts hf).2.2.2.2 i hi
theorem conf_none (hf : formB N G P = true) : confS N G P = none ↔ Closed N G P := by
  have hm := (formB_parts hf).1
  unfold confS Closed
  rw [confN_none]
  constructor
  · intro h
    have first : ∀ k, k < N.length → ∀ i, posN (canonsS N P) ((canonsS N P).getD k z48) N.length = some i → findS P (G.getD i 0) = findS P (G.getD k 0) := by
      intro k hk i hi
      cases hp : posN (canonsS N P) ((canonsS N P).getD k z48) k with
      | some j =>
        have := posN_up _ _ hp (Nat.le_of_lt hk)
        obtain rfl : i = j := by rw [hi] at this; exact Option.some.inj this
        have := h k (Nat.zero_le _) (by omega) i hp
        have hi' := posN_lt _ _ _ _ hp
        rw [rd_roots hm (form_G hf (by omega)), rd_roots hm (form_G hf hk)] at this
        exact this
      | none =>
        have := posN_of (canonsS N P) ((canonsS N P).getD k z48) hk rfl ((posN_spec _ _ _).2 hp)
        obtain rfl : i = k := by rw [hi] at this; exact Option.some.inj this
        rfl
    intro i k hi hk he
    obtain ⟨a, ha, _⟩ := posN_is (cs := canonsS N P) hi
    obtain ⟨b, hb, _⟩ := posN_is (cs := canonsS N P) hk
    have h1 := first i hi a ha
    have h2 := first k hk b hb
    rw [canons_at N P hi, he, ← canons_at N P hk] at ha
    obtain rfl : a = b := by rw [ha] at hb; exact Option.some.inj hb
    rw [← h1, h2]
  · intro h j _ hj i hi
    have hi' := posN_lt _ _ _ _ hi
    have hjN : j < N.length := by omega
    rw [rd_roots hm (form_G hf (by omega)), rd_roots hm (form_G hf hjN)]
    have he := ((posN_spec _ _ _).1 i hi).2.1
    rw [canons_at N P (by omega), canons_at N P hjN] at he
    exact h i j (by omega) hjN he
theorem mayM_iff : mayMB N G P = true ↔ formB N G P = true ∧ Closed N G P := by
  unfold mayMB
  rw [Bool.and_eq_true, Option.isNone_iff_eq_none]
  constructor
  · rintro ⟨h1, h2⟩; exact ⟨h1, (conf_none h1).1 h2⟩
  · rintro ⟨h1, h2⟩; exact ⟨h1, (conf_none h1).2 h2⟩
theorem conf_some (hf : formB N G P = true) {x y : Int} (h : confS N G P = some (x, y)) : inB P x = true ∧ inB P y = true ∧ findS P x ≠ findS P y ∧ ∃ i j, i < N.length ∧ j < N.length ∧ x = G.getD i 0 ∧ y = G.getD j 0 ∧ canonS (rootsS P) (N.getD i z48) = canonS (rootsS P) (N.getD j z48) := by
  have hm := (formB_parts hf).1
  obtain ⟨i, j, h1, h2, h3, rfl, rfl, h4, _⟩ := confN_at h
  have hi := posN_lt _ _ _ _ h3
  have hj : j < N.length := by omega
  have he := ((posN_spec _ _ _).1 i h3).2.1
  rw [canons_at N P (by omega), canons_at N P hj] at he
  rw [rd_roots hm (form_G hf (by omega)), rd_roots hm (form_G hf hj)] at h4
  exact ⟨form_G hf (by omega), form_G hf hj, h4, i, j, by omega, hj, rfl, rfl, he⟩
end

/-! ### merging -/
/-- What merging comes to: Q is P with x and y one, closed, and no more is one than must be. -/
structure Merged (N : List S48) (G P : List Int) (x y : Int) (Q : List Int) : Prop where
  may : mayB Q = true
  le : LeP P Q
  flat : rootsS Q = Q
  two : findS Q x = findS Q y
  closed : Closed N G Q
  least : ∀ R, mayB R = true → LeP P R → findS R x = findS R y → Closed N G R → LeP Q R
theorem sets_le (p : List Int) : sets p ≤ p.length := cnt_le _ _
section
variable {N : List S48} {G : List Int}
theorem merge_go : ∀ (s k : Nat) (P : List Int) (x y : Int), formB N G P = true → inB P x = true → inB P y = true → sets (joinP P x y) ≤ s → s < k → ∃ Q, mergeO N G k P x y = some Q ∧ Merged N G P x y Q := by
  intro s
  induction s with
  | zero =>
    intro k P x y hf hx hy hs hk
    obtain ⟨k, rfl⟩ : ∃ m, k = m + 1 := ⟨k - 1, by omega⟩
    exact go1 0 k P x y hf hx hy hs (by omega) (fun _ h => by omega)
  | succ s ih =>
    intro k P x y hf hx hy hs hk
    obtain ⟨k, rfl⟩ : ∃ m, k = m + 1 := ⟨k - 1, by omega⟩
    exact go1 (s + 1) k P x y hf hx hy hs (by omega) (fun P' h x' y' hf' hx' hy' hs' => ih k P' x' y' hf' hx' hy' (by omega) (by omega))
where
  go1 (s k : Nat) (P : List Int) (x y : Int) (hf : formB N G P = true) (hx : inB P x = true) (hy : inB P y = true) (hs : sets (joinP P x y) ≤ s) (hk : s ≤ k)
      (ih : ∀ P', 1 ≤ s → ∀ x' y', formB N G P' = true → inB P' x' = true → inB P' y' = true → sets (joinP P' x' y') < s → ∃ Q, mergeO N G k P' x' y' = some Q ∧ Merged N G P' x' y' Q) : ∃ Q, mergeO N G (k + 1) P x y = some Q ∧ Merged N G P x y Q := by
    have hm := (formB_parts hf).1
    have hJ := inB_joined hm hx hy
    have hje := joined_eq hJ
    have hl := joined_length hJ
    have hjm := joined_may hJ
    have hle := join_le hJ
    have hf' : formB N G (joinP P x y) = true := form_same hf hjm hl
    have htwo : findS (joinP P x y) x = findS (joinP P x y) y := by
      rw [find_in hjm (by rw [inB_of_len hl]; exact hx), find_in hjm (by rw [inB_of_len hl]; exact hy), join_two hJ]
    have hleast : ∀ R, mayB R = true → LeP P R → findS R x = findS R y → LeP (joinP P x y) R := by
      intro R hR h1 h2
      refine join_least hJ h1 ?_
      rw [find_in hR (by rw [h1.inB]; exact hx), find_in hR (by rw [h1.inB]; exact hy)] at h2
      omega
    unfold mergeO
    rw [hje]
    dsimp only
    cases hc : confS N G (joinP P x y) with
    | none => exact ⟨_, rfl, hjm, hle, joined_flat hJ, htwo, (conf_none hf').1 hc, fun R hR h1 h2 _ => hleast R hR h1 h2⟩
    | some ab =>
      obtain ⟨a, b⟩ := ab
      dsimp only
      obtain ⟨ha, hb, hab, i, j, hi, hj, ea, eb, hcan⟩ := conf_some hf' hc
      have hJ' := inB_joined hjm ha hb
      have hsets := joined_sets hJ'
      rw [find_in hjm ha, find_in hjm hb] at hab
      rw [if_neg (fun e => hab (by rw [e]))] at hsets
      obtain ⟨Q, hQ, q⟩ := ih (joinP P x y) (by omega) a b hf' ha hb (by omega)
      refine ⟨Q, hQ, q.may, hle.trans hm q.le, q.flat, ?_, q.closed, fun R hR h1 h2 h3 => ?_⟩
      · exact q.le.same hjm q.may (by rw [hle.inB]; exact hx) (by rw [hle.inB]; exact hy) htwo
      · have h4 := hleast R hR h1 h2
        refine q.least R hR h4 ?_ h3
        rw [ea, eb]
        exact h3 i j hi hj (canon_le hjm hR h4 (form_N hf' hi) (form_N hf' hj) hcan)
end
/-- What merging comes to, as a plain function. -/
def mergeP (N : List S48) (G P : List Int) (x y : Int) : List Int := (mergeO N G 401 P x y).getD P
theorem mergeO_up {N : List S48} {G P Q : List Int} {x y : Int} {k : Nat} (h : mergeO N G k P x y = some Q) : ∀ m, k ≤ m → mergeO N G m P x y = some Q := by
  intro m hm
  obtain ⟨d, rfl⟩ : ∃ d, m = k + d := ⟨m - k, by omega⟩
  clear hm
  induction d with
  | zero => exact h
  | succ d ih => exact mergeO_mono N G (k + d) P x y _ ih
section
variable {N : List S48} {G P : List Int} {x y : Int}
theorem mergeO_k (hf : formB N G P = true) (hx : inB P x = true) (hy : inB P y = true) {k : Nat} (hk : 401 ≤ k) : mergeO N G k P x y = some (mergeP N G P x y) := by
  have hl := mayB_len (formB_parts hf).1
  have hs := sets_le (joinP P x y)
  rw [joined_length (inB_joined (formB_parts hf).1 hx hy)] at hs
  obtain ⟨Q, hQ, _⟩ := merge_go (N := N) (G := G) 400 401 P x y hf hx hy (by omega) (by omega)
  unfold mergeP
  rw [hQ]
  exact mergeO_up hQ k hk
theorem merged (hf : formB N G P = true) (hx : inB P x = true) (hy : inB P y = true) : Merged N G P x y (mergeP N G P x y) := by
  have hl := mayB_len (formB_parts hf).1
  have hs := sets_le (joinP P x y)
  rw [joined_length (inB_joined (formB_parts hf).1 hx hy)] at hs
  obtain ⟨Q, hQ, h⟩ := merge_go (N := N) (G := G) 400 401 P x y hf hx hy (by omega) (by omega)
  unfold mergeP
  rw [hQ]
  exact h
end
end Go.Proofs.Ytkidnomkfdnciaa.All
