/- What the functions of the packages sets, memo and calls tell, as plain functions on lists. Nothing is proved of the program here. -/
import Derived.Test.YtkidnomkfdnciaaAllx0
namespace Go.Proofs.Ytkidnomkfdnciaa.All
open Go.RowKit Go.Proofs.YtkidnomkfdnciaaW.PrintWords

instance : DecidableEq S48 := fun x y =>
  decidable_of_iff (x.f0 = y.f0 ∧ x.f1 = y.f1 ∧ x.f2 = y.f2 ∧ x.f3 = y.f3) ⟨fun h => by obtain ⟨a, b, c, d⟩ := x; obtain ⟨a', b', c', d'⟩ := y; obtain ⟨rfl, rfl, rfl, rfl⟩ := h; rfl, fun h => by rw [h]; exact ⟨rfl, rfl, rfl, rfl⟩⟩
/-- May sets be: each number's parent is none greater, and there are at most 400. -/
def mayB (p : List Int) : Bool := (List.range p.length).all (fun i => decide (0 ≤ p.getD i 0) && decide (p.getD i 0 ≤ (i : Int))) && decide (p.length ≤ 400)
/-- Upwards from i, at most so many steps. -/
def upN (p : List Int) : Nat → Nat → Nat
  | 0, i => i
  | f + 1, i => if p.getD i 0 = (i : Int) then i else upN p f (p.getD i 0).toNat
def rootN (p : List Int) (i : Nat) : Nat := upN p i i
def rootZ (p : List Int) (i : Int) : Int := (rootN p i.toNat : Int)
def inB (p : List Int) (i : Int) : Bool := decide (0 ≤ i) && decide (i < (p.length : Int))
def findS (p : List Int) (i : Int) : Int := if (mayB p && inB p i) = true then rootZ p i else -1
def rootsS (p : List Int) : List Int := if mayB p = true then (List.range p.length).map (fun i => (rootN p i : Int)) else []
def joinS (p : List Int) (a b : Int) : List Int × Bool :=
  if findS p a = -1 then (p, false) else if findS p b = -1 then (p, false) else
  ((rootsS p).map (fun r => if r = max (findS p a) (findS p b) then min (findS p a) (findS p b) else r), true)

/-- A node with the least groups in their places. -/
def canonS (roots : List Int) (n : S48) : S48 := if n.f0 = true then ⟨n.f0, n.f1, rd roots n.f2, rd roots n.f3⟩ else n
/-- May a node be, where there are such groups? -/
def nodeB (P : List Int) (n : S48) : Bool := if n.f0 = true then decide (n.f1 = 0) && (inB P n.f2 && inB P n.f3) else decide (n.f2 = 0) && decide (n.f3 = 0) && (decide (0 ≤ n.f1) && decide (n.f1 < 4))
/-- May a memo be, but that it may not be closed? -/
def formB (N : List S48) (G P : List Int) : Bool := mayB P && (decide (G.length = N.length) && (decide (N.length ≤ 400) && (!(G.any fun g => !inB P g) && !(N.any fun n => !nodeB P n))))
/-- The first place of x among the first k. -/
def posN (cs : List S48) (x : S48) : Nat → Option Nat
  | 0 => none
  | k + 1 => match posN cs x k with
    | some i => some i
    | none => if cs.getD k z48 = x then some k else none
/-- From place k on, d places: two groups of one node that are of two sets. -/
def confN (cs : List S48) (G R : List Int) : Nat → Nat → Option (Int × Int)
  | 0, _ => none
  | d + 1, k => match posN cs (cs.getD k z48) k with
    | none => confN cs G R d (k + 1)
    | some i => if rd R (G.getD i 0) = rd R (G.getD k 0) then confN cs G R d (k + 1) else some (G.getD i 0, G.getD k 0)
def canonsS (N : List S48) (P : List Int) : List S48 := N.map (canonS (rootsS P))
def confS (N : List S48) (G P : List Int) : Option (Int × Int) := confN (canonsS N P) G (rootsS P) N.length 0
/-- May a memo be? -/
def mayMB (N : List S48) (G P : List Int) : Bool := formB N G P && (confS N G P).isNone

/-- How many whole numbers, nodes, events fit in what a slice may take. -/
def limI (l : List Int) : Bool := decide (l.length * 8 ≤ 140737488355328)
def limN (l : List S48) : Bool := decide (l.length * 32 ≤ 140737488355328)
theorem mayB_at {p : List Int} (h : mayB p = true) (i : Nat) (hi : i < p.length) : 0 ≤ p.getD i 0 ∧ p.getD i 0 ≤ (i : Int) := by
  simp only [mayB, Bool.and_eq_true, List.all_eq_true, decide_eq_true_eq, List.mem_range] at h
  exact h.1 i hi
theorem mayB_len {p : List Int} (h : mayB p = true) : p.length ≤ 400 := by
  simp only [mayB, Bool.and_eq_true, decide_eq_true_eq] at h
  exact h.2
theorem mayB_of {p : List Int} (h : ∀ i, i < p.length → 0 ≤ p.getD i 0 ∧ p.getD i 0 ≤ (i : Int)) (hl : p.length ≤ 400) : mayB p = true := by
  simp only [mayB, Bool.and_eq_true, List.all_eq_true, decide_eq_true_eq, List.mem_range]
  exact ⟨h, hl⟩
end Go.Proofs.Ytkidnomkfdnciaa.All
