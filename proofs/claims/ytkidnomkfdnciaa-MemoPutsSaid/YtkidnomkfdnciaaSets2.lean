/- Plain facts on joining twice, and on sets that are the same. -/
import Derived.Test.YtkidnomkfdnciaaSets
namespace Go.Proofs.Ytkidnomkfdnciaa.All
open Go.RowKit Go.Proofs.YtkidnomkfdnciaaW.PrintWords

theorem J_cases (x y r : Nat) : (r = x ∨ r = y) ∧ J x y r = min x y ∨ (r ≠ x ∧ r ≠ y) ∧ J x y r = r := by
  unfold J
  by_cases h1 : r = x
  · left; refine ⟨.inl h1, ?_⟩; split <;> omega
  · by_cases h2 : r = y
    · left; refine ⟨.inr h2, ?_⟩; split <;> omega
    · right; refine ⟨⟨h1, h2⟩, ?_⟩; rw [if_neg (by omega)]
set_option maxHeartbeats 4000000 in
theorem J_order (a b c d r : Nat) : J (J a b c) (J a b d) (J a b r) = J (J c d b) (J c d a) (J c d r) := by
  have h7 := J_cases (J a b c) (J a b d) (J a b r)
  have h8 := J_cases (J c d b) (J c d a) (J c d r)
  have h1 := J_cases a b c
  have h2 := J_cases a b d
  have h3 := J_cases a b r
  have h4 := J_cases c d b
  have h5 := J_cases c d a
  have h6 := J_cases c d r
  generalize J (J a b c) (J a b d) (J a b r) = u at *
  generalize J (J c d b) (J c d a) (J c d r) = v at *
  generalize J a b c = c1 at *
  generalize J a b d = d1 at *
  generalize J a b r = r1 at *
  generalize J c d b = b2 at *
  generalize J c d a = a2 at *
  generalize J c d r = r2 at *
  rcases Nat.le_total a b with hab | hab <;> rcases Nat.le_total c d with hcd | hcd <;> simp only [hab, hcd, Nat.min_eq_left, Nat.min_eq_right] at h1 h2 h3 h4 h5 h6 <;>
  rcases h1 with ⟨_, rfl⟩ | ⟨_, rfl⟩ <;> rcases h2 with ⟨_, rfl⟩ | ⟨_, rfl⟩ <;> rcases h3 with ⟨_, rfl⟩ | ⟨_, rfl⟩ <;> rcases h4 with ⟨_, rfl⟩ | ⟨_, rfl⟩ <;> rcases h5 with ⟨_, rfl⟩ | ⟨_, rfl⟩ <;> rcases h6 with ⟨_, rfl⟩ | ⟨_, rfl⟩ <;> omega
theorem J_self (z t : Nat) : J z z t = t := by unfold J; split <;> omega
theorem J_again (a b c d r : Nat) : J (J (J a b c) (J a b d) (J a b a)) (J (J a b c) (J a b d) (J a b b)) (J (J a b c) (J a b d) (J a b r)) = J (J a b c) (J a b d) (J a b r) := by
  have h : J a b a = J a b b := by unfold J; split <;> split <;> omega
  rw [h]
  exact J_self _ _
theorem J_one (a b r s : Nat) : (J a b r = J a b s) ↔ (r = s ∨ ((r = a ∨ r = b) ∧ (s = a ∨ s = b))) := by
  rcases J_cases a b r with ⟨c1, e1⟩ | ⟨c1, e1⟩ <;> rcases J_cases a b s with ⟨c2, e2⟩ | ⟨c2, e2⟩ <;> rw [e1, e2] <;> omega

theorem Joined.of_len {p q : List Int} {a b : Int} (h : Joined p a b) (hm : mayB q = true) (hl : q.length = p.length) : Joined q a b :=
  ⟨hm, h.a0, by rw [hl]; exact h.al, h.b0, by rw [hl]; exact h.bl⟩
theorem Joined.same {p : List Int} {a b c d : Int} (h : Joined p a b) (k : Joined p c d) : Joined p c d ∧ Joined (joinP p a b) c d := ⟨k, k.of_len (joined_may h) (joined_length h)⟩
theorem Joined.swap {p : List Int} {a b : Int} (h : Joined p a b) : Joined p b a := ⟨h.may, h.b0, h.bl, h.a0, h.al⟩
theorem Joined.na {p : List Int} {a b : Int} (h : Joined p a b) : a.toNat < p.length := by have := h.a0; have := h.al; omega
theorem Joined.nb {p : List Int} {a b : Int} (h : Joined p a b) : b.toNat < p.length := by have := h.b0; have := h.bl; omega
/-- In whichever order, and whichever way round. -/
theorem join_order {p : List Int} {a b c d : Int} (h : Joined p a b) (k : Joined p c d) : joinP (joinP p a b) c d = joinP (joinP p c d) b a := by
  have k2 := (h.same k).2
  have h2 := (k.same h.swap).2
  refine flat_ext (joined_may k2) (joined_may h2) (joined_flat k2) (joined_flat h2) (by rw [joined_length k2, joined_length h, joined_length h2, joined_length k]) fun i hi => ?_
  rw [joined_length k2, joined_length h] at hi
  rw [joined_root k2 (by rw [joined_length h]; exact hi), joined_root h2 (by rw [joined_length k]; exact hi), joined_root h k.na, joined_root h k.nb, joined_root h hi, joined_root k h.nb, joined_root k h.na, joined_root k hi]
  exact J_order _ _ _ _ _
/-- Joined again nothing changes. -/
theorem join_again {p : List Int} {a b c d : Int} (h : Joined p a b) (k : Joined p c d) : joinP (joinP (joinP p a b) c d) a b = joinP (joinP p a b) c d := by
  have k2 := (h.same k).2
  have h2 := ((h.same h).2.of_len (joined_may k2) (joined_length k2))
  refine flat_ext (joined_may h2) (joined_may k2) (joined_flat h2) (joined_flat k2) (joined_length h2) fun i hi => ?_
  rw [joined_length h2, joined_length k2, joined_length h] at hi
  have e := joined_length h
  rw [joined_root h2 (by rw [joined_length k2, e]; exact hi), joined_root k2 (i := a.toNat) (by rw [e]; exact h.na), joined_root k2 (i := b.toNat) (by rw [e]; exact h.nb), joined_root k2 (i := i) (by rw [e]; exact hi),
    joined_root h k.na, joined_root h k.nb, joined_root h h.na, joined_root h h.nb, joined_root h hi]
  exact J_again _ _ _ _ _
/-- Sets are the same where all least ones are. -/
theorem same_iff {p q : List Int} (hp : mayB p = true) (hq : mayB q = true) : sameB p q = true ↔ p.length = q.length ∧ ∀ i, i < p.length → rootN p i = rootN q i := by
  unfold sameB
  rw [hp, hq, Bool.true_and, Bool.true_and, decide_eq_true_eq]
  constructor
  · intro h
    have hl : p.length = q.length := by rw [← rootsS_length p hp, h, rootsS_length q hq]
    refine ⟨hl, fun i hi => ?_⟩
    have h1 := rootsS_at hp hi
    have h2 := rootsS_at hq (hl ▸ hi)
    rw [h] at h1
    omega
  · rintro ⟨hl, h⟩
    refine ext_getD (by rw [rootsS_length p hp, rootsS_length q hq, hl]) fun i hi => ?_
    rw [rootsS_length p hp] at hi
    rw [rootsS_at hp hi, rootsS_at hq (hl ▸ hi), h i hi]
theorem same_may {p q : List Int} (h : sameB p q = true) : mayB p = true ∧ mayB q = true := by
  unfold sameB at h
  simp only [Bool.and_eq_true] at h
  exact h.1
theorem same_comm (p q : List Int) : sameB p q = sameB q p := by
  unfold sameB
  rw [Bool.and_comm (mayB p), show decide (rootsS p = rootsS q) = decide (rootsS q = rootsS p) from by rw [decide_eq_decide]; exact eq_comm]
theorem same_self (p : List Int) : sameB p p = mayB p := by
  unfold sameB
  simp
theorem same_find {p q : List Int} (h : sameB p q = true) (a : Int) : findS p a = findS q a := by
  obtain ⟨hp, hq⟩ := same_may h
  obtain ⟨hl, hr⟩ := (same_iff hp hq).1 h
  rcases findS_cases p a with ⟨h1, h2⟩ | ⟨_, h1, h2, h3⟩
  · have h2' : mayB q = false ∨ a < 0 ∨ (q.length : Int) ≤ a := by
      rcases h2 with h2 | h2 | h2
      · rw [hp] at h2; cases h2
      · exact .inr (.inl h2)
      · exact .inr (.inr (by omega))
    rw [h1, findS_out h2']
  · rw [h3, findS_in hq h1 (by omega), hr _ (by omega)]
/-- Joined alike two that are the same are still. -/
theorem same_join {p q : List Int} (h : sameB p q = true) (a b : Int) : (joinS p a b).2 = (joinS q a b).2 ∧ sameB (joinS p a b).1 (joinS q a b).1 = true := by
  obtain ⟨hp, hq⟩ := same_may h
  obtain ⟨hl, hr⟩ := (same_iff hp hq).1 h
  have ha := same_find h a
  have hb := same_find h b
  unfold joinS
  rw [ha, hb]
  split
  · exact ⟨rfl, h⟩
  · split
    · exact ⟨rfl, h⟩
    · have : rootsS p = rootsS q := by
        unfold sameB at h
        simp only [Bool.and_eq_true, decide_eq_true_eq] at h
        exact h.2
      refine ⟨rfl, ?_⟩
      rw [this, same_self]
      have hJ : Joined q a b := by
        rcases join_cases q a b with ⟨_, h3⟩ | ⟨h3, _⟩
        · rcases h3 with h3 | h3 | h3
          · rw [hq] at h3; cases h3
          · contradiction
          · contradiction
        · exact h3
      have e := joined_eq hJ
      rcases join_cases q a b with ⟨h3, _⟩ | ⟨_, h3⟩
      · rw [h3] at e; exact absurd (congrArg Prod.snd e) (by simp)
      · rw [h3] at e
        rw [congrArg Prod.fst e]
        exact joined_may hJ
end Go.Proofs.Ytkidnomkfdnciaa.All
