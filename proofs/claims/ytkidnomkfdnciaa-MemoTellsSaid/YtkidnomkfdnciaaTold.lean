/- The law on memos and the document's: what its walk comes to. -/
import Derived.Test.YtkidnomkfdnciaaTells
namespace Go.Proofs.Ytkidnomkfdnciaa.All
open Go.RowKit Go.Proofs.YtkidnomkfdnciaaW.PrintWords
set_option linter.unusedVariables false
section
variable {N : List S48} {G P : List Int}
theorem sameB_self (P : List Int) : sameB P P = mayB P := by
  unfold sameB
  rw [decide_eq_true rfl, Bool.and_true, Bool.and_self]
/-- The sets that Put leaves: they may be, where these may. -/
theorem put_sets {n : S48} {g : Int} {a : List S48} {b c : List Int} {x y : Int} (he : putT N G P n g = (a, b, c, x, y)) : (mayB P = false → c = P) ∧ (mayMB N G P = false → c = P) ∧ (mayMB N G P = true → mayB c = true) ∧ c.length ≤ P.length + 1 := by
  have hc := put_cases N G P n g
  rw [he] at hc
  refine ⟨fun h0 => ?_, fun h0 => ?_, fun h0 => may_P (hc.after h0), ?_⟩
  · have h0 : mayMB N G P = false := by
      cases hm : mayMB N G P with
      | false => rfl
      | true => rw [may_P hm] at h0; cases h0
    cases hc with
    | bad _ => rfl
    | has h _ _ _ _ _ => rfl
    | merge _ _ _ _ _ h => rw [h.may] at h0; cases h0
    | full _ _ => rfl
    | own h _ _ _ _ _ => rw [h] at h0; cases h0
    | new h _ _ _ _ _ => rfl
  · cases hc with
    | bad _ => rfl
    | has h _ _ _ _ _ => rfl
    | merge _ _ _ _ _ h => rw [h.may] at h0; cases h0
    | full _ _ => rfl
    | own h _ _ _ _ _ => rw [h] at h0; cases h0
    | new h _ _ _ _ _ => rfl
  · cases hc with
    | bad _ => omega
    | has h _ _ _ _ _ => omega
    | merge _ _ _ _ _ h => have := h.len; omega
    | full _ _ => omega
    | own h _ _ _ _ _ => simp
    | new h _ _ _ _ _ => omega
theorem merge_sets {a b : Int} {p : List Int} {x y : Int} (he : mergeT N G P a b = (p, x, y)) : (mayB P = false → p = P) ∧ (mayMB N G P = false → p = P) ∧ (mayMB N G P = true → mayB p = true) ∧ p.length = P.length := by
  rcases mer_cases N G P a b with h | ⟨h, e⟩
  · rw [he] at h
    obtain ⟨rfl, _⟩ := Prod.mk.inj h
    exact ⟨fun _ => rfl, fun _ => rfl, fun h => may_P h, rfl⟩
  · rw [he] at e
    obtain ⟨rfl, _⟩ := Prod.mk.inj e
    exact ⟨fun h0 => (by rw [may_P h.may] at h0; cases h0), fun h0 => (by rw [h.may] at h0; cases h0), fun _ => h.spec.may, h.len⟩
variable {w : World} {AN AG AP AN' AG' AP' : Option Addr} {cN cG cP cN' cG' cP' : Nat} {N' : List S48} {G' P' : List Int}
theorem Tells_true (n : S48) (g q : Int) (hL : Lim N G P) (h : MemoAt w AN cN N AG cG G AP cP P) (h' : MemoAt w AN' cN' N' AG' cG' G' AP' cP' P') :
    Calls Try.prog 13 #[.agg #[.slice AN N.length cN, .slice AG G.length cG, .slice AP P.length cP], .agg #[.slice AN' N'.length cN', .slice AG' G'.length cG', .slice AP' P'.length cP'], .agg #[.bool n.f0, .int .i64 n.f1, .int .i64 n.f2, .int .i64 n.f3], .int .i64 g, .int .i64 q] w fun e w' => e = .returned (.bool true) ∧ Below w.heap.size w w' := by
  cases hf : fewB N G P 60 with
  | false => exact Tells_far n g q h h' (.inl hf)
  | true =>
    cases hf' : fewB N' G' P' 60 with
    | false => exact Tells_far n g q h h' (.inr ⟨hf, hf'⟩)
    | true =>
      have h60 := fewB_iff.1 hf
      obtain ⟨⟨a, b, c, a4, a5⟩, hput⟩ : ∃ r, putT N G P n g = r := ⟨_, rfl⟩
      obtain ⟨⟨p, p4, p5⟩, hmer⟩ : ∃ r, mergeT N G P g q = r := ⟨_, rfl⟩
      obtain ⟨⟨l1, l2⟩, hlook⟩ : ∃ r, lookS N G P n = r := ⟨_, rfl⟩
      obtain ⟨c0, c1, c2, c3⟩ := put_sets hput
      obtain ⟨m0, m1, m2, m3⟩ := merge_sets hmer
      refine Tells_near n g q hL h h' hf hf' hput hmer hlook rfl rfl rfl rfl (by omega) (by omega) ?_
      rw [self_same, self_same, sameB_self, sameB_self]
      cases hmm : mayMB N G P with
      | true => exact .inl ⟨rfl, c2 hmm, m2 hmm⟩
      | false =>
        rw [c1 hmm, m1 hmm]
        cases hmp : mayB P with
        | true => exact .inr (.inl ⟨rfl, rfl, rfl, rfl⟩)
        | false => exact .inr (.inr ⟨rfl, rfl, rfl, rfl⟩)
end
def limT (N : List S48) (G P : List Int) : Bool := decide (N.length * 32 ≤ 140737488351232) && (decide (G.length * 8 ≤ 140737488351232) && decide (P.length * 8 ≤ 140737488351232))
theorem limT_iff {N : List S48} {G P : List Int} : limT N G P = true ↔ Lim N G P := by
  unfold limT
  simp only [Bool.and_eq_true, decide_eq_true_eq]
  exact ⟨fun h => ⟨h.1, h.2.1, h.2.2⟩, fun h => ⟨h.n, h.g, h.p⟩⟩
def roadbooklaw16_MemoTells.f (_ : Nat) (N : List S48) (G P : List Int) (_ : List S48) (_ _ : List Int) (_ : Bool) (_ _ _ _ _ : Int) : Option Bool := if limT N G P = true then some true else none
theorem roadbooklaw16_MemoTells.calls (k : Nat) (A0_0 : Option Addr) (c0_0 : Nat) (l0_0 : List (S48)) (A0_1 : Option Addr) (c0_1 : Nat) (l0_1 : List Int) (A0_2 : Option Addr) (c0_2 : Nat) (l0_2 : List Int) (A1_0 : Option Addr) (c1_0 : Nat) (l1_0 : List (S48)) (A1_1 : Option Addr) (c1_1 : Nat) (l1_1 : List Int) (A1_2 : Option Addr) (c1_2 : Nat) (l1_2 : List Int) (a2_0 : Bool) (a2_1 : Int) (a2_2 : Int) (a2_3 : Int) (a3 : Int) (a4 : Int) (r : Bool) (w : World) (hr0_0 : Kd.C k48 w A0_0 l0_0.length l0_0) (hc0_0 : l0_0.length ≤ c0_0) (hr0_1 : Kd.C (Kd.int .i64) w A0_1 l0_1.length l0_1) (hc0_1 : l0_1.length ≤ c0_1) (hr0_2 : Kd.C (Kd.int .i64) w A0_2 l0_2.length l0_2) (hc0_2 : l0_2.length ≤ c0_2) (hr1_0 : Kd.C k48 w A1_0 l1_0.length l1_0) (hc1_0 : l1_0.length ≤ c1_0) (hr1_1 : Kd.C (Kd.int .i64) w A1_1 l1_1.length l1_1) (hc1_1 : l1_1.length ≤ c1_1) (hr1_2 : Kd.C (Kd.int .i64) w A1_2 l1_2.length l1_2) (hc1_2 : l1_2.length ≤ c1_2) (hrt : r = true) (h : roadbooklaw16_MemoTells.f k l0_0 l0_1 l0_2 l1_0 l1_1 l1_2 a2_0 a2_1 a2_2 a2_3 a3 a4 = some r) :
    Calls Try.prog 13 #[.agg #[.slice A0_0 l0_0.length c0_0, .slice A0_1 l0_1.length c0_1, .slice A0_2 l0_2.length c0_2], .agg #[.slice A1_0 l1_0.length c1_0, .slice A1_1 l1_1.length c1_1, .slice A1_2 l1_2.length c1_2], .agg #[.bool a2_0, .int .i64 a2_1, .int .i64 a2_2, .int .i64 a2_3], .int .i64 a3, .int .i64 a4] w fun e w' => e = .returned (.bool r) ∧ Below w.heap.size w w' := by
  subst hrt
  unfold roadbooklaw16_MemoTells.f at h
  by_cases hl : limT l0_0 l0_1 l0_2 = true
  · exact Tells_true ⟨a2_0, a2_1, a2_2, a2_3⟩ a3 a4 (limT_iff.1 hl) ⟨hr0_0, hc0_0, hr0_1, hc0_1, hr0_2, hc0_2⟩ ⟨hr1_0, hc1_0, hr1_1, hc1_1, hr1_2, hc1_2⟩
  · rw [if_neg hl] at h; cases h
end Go.Proofs.Ytkidnomkfdnciaa.All
