/- What the functions of the packages sets, memo and calls tell, as plain functions on lists. Nothing is proved of the program here. -/
import Derived.Test.YtkidnomkfdnciaaAllx0
namespace Go.Proofs.Ytkidnomkfdnciaa.All
open Go.RowKit Go.Proofs.YtkidnomkfdnciaaW.PrintWords

/-- May sets be: each number's parent is none greater, and there are at most 400. -/
def mayB (p : List Int) : Bool := (List.range p.length).all (fun i => decide (0 ≤ p.getD i 0) && decide (p.getD i 0 ≤ (i : Int))) && decide (p.length ≤ 400)
/-- Upwards from i, at most so many steps. -/
def upN (p : List Int) : Nat → Nat → Nat
  | 0, i => i
  | f + 1, i => if p.getD i 0 = (i : Int) then i else upN p f (p.getD i 0).toNat
def rootN (p : List Int) (i : Nat) : Nat := upN p i i
def rootZ (p : List Int) (i : Int) : Int := (rootN p i.toNat : Int)
def inB (p : List Int) (i : Int) : Bool := decide (0 ≤ i) && decide (i < (p.length : Int))
def findS (p : List Int) (i : Int) : Int := if (mayB p && inB p i) = true then rootZ p i else -1
def rootsS (p : List Int) : List Int := if mayB p = true then (List.range p.length).map (fun i => (rootN p i : Int)) else []
def joinS (p : List Int) (a b : Int) : List Int × Bool :=
  if findS p a = -1 then (p, false) else if findS p b = -1 then (p, false) else
  ((rootsS p).map (fun r => if r = max (findS p a) (findS p b) then min (findS p a) (findS p b) else r), true)

/-- How many whole numbers, nodes, events fit in what a slice may take. -/
def limI (l : List Int) : Bool := decide (l.length * 8 ≤ 140737488355328)
def limN (l : List S48) : Bool := decide (l.length * 32 ≤ 140737488355328)
def limE (l : List S68) : Bool := decide (l.length * 24 ≤ 140737488355328)

theorem mayB_at {p : List Int} (h : mayB p = true) (i : Nat) (hi : i < p.length) : 0 ≤ p.getD i 0 ∧ p.getD i 0 ≤ (i : Int) := by
  simp only [mayB, Bool.and_eq_true, List.all_eq_true, decide_eq_true_eq, List.mem_range] at h
  exact h.1 i hi
theorem mayB_len {p : List Int} (h : mayB p = true) : p.length ≤ 400 := by
  simp only [mayB, Bool.and_eq_true, decide_eq_true_eq] at h
  exact h.2
theorem mayB_of {p : List Int} (h : ∀ i, i < p.length → 0 ≤ p.getD i 0 ∧ p.getD i 0 ≤ (i : Int)) (hl : p.length ≤ 400) : mayB p = true := by
  simp only [mayB, Bool.and_eq_true, List.all_eq_true, decide_eq_true_eq, List.mem_range]
  exact ⟨h, hl⟩
end Go.Proofs.Ytkidnomkfdnciaa.All
