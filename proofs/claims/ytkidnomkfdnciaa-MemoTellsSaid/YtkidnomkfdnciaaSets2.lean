/- Plain facts on joining twice, and on sets that are the same. -/
import Derived.Test.YtkidnomkfdnciaaSets
namespace Go.Proofs.Ytkidnomkfdnciaa.All
open Go.RowKit Go.Proofs.YtkidnomkfdnciaaW.PrintWords

theorem J_cases (x y r : Nat) : (r = x ∨ r = y) ∧ J x y r = min x y ∨ (r ≠ x ∧ r ≠ y) ∧ J x y r = r := by
  unfold J
  by_cases h1 : r = x
  · left; refine ⟨.inl h1, ?_⟩; split <;> omega
  · by_cases h2 : r = y
    · left; refine ⟨.inr h2, ?_⟩; split <;> omega
    · right; refine ⟨⟨h1, h2⟩, ?_⟩; rw [if_neg (by omega)]
theorem J_one (a b r s : Nat) : (J a b r = J a b s) ↔ (r = s ∨ ((r = a ∨ r = b) ∧ (s = a ∨ s = b))) := by
  rcases J_cases a b r with ⟨c1, e1⟩ | ⟨c1, e1⟩ <;> rcases J_cases a b s with ⟨c2, e2⟩ | ⟨c2, e2⟩ <;> rw [e1, e2] <;> omega

theorem Joined.of_len {p q : List Int} {a b : Int} (h : Joined p a b) (hm : mayB q = true) (hl : q.length = p.length) : Joined q a b :=
  ⟨hm, h.a0, by rw [hl]; exact h.al, h.b0, by rw [hl]; exact h.bl⟩
theorem Joined.same {p : List Int} {a b c d : Int} (h : Joined p a b) (k : Joined p c d) : Joined p c d ∧ Joined (joinP p a b) c d := ⟨k, k.of_len (joined_may h) (joined_length h)⟩
theorem Joined.na {p : List Int} {a b : Int} (h : Joined p a b) : a.toNat < p.length := by have := h.a0; have := h.al; omega
theorem Joined.nb {p : List Int} {a b : Int} (h : Joined p a b) : b.toNat < p.length := by have := h.b0; have := h.bl; omega
end Go.Proofs.Ytkidnomkfdnciaa.All
