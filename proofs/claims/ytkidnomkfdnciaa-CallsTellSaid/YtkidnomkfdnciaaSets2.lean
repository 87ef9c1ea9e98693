/- Functions of the program as plain Lean functions, and proofs that the calls do what these say; written for this claim by a program of the session (wip/tools/mkprint.py), checked by Lean. -/
import Derived.Test.YtkidnomkfdnciaaProg
import Derived.Below
import Derived.Deep.Draws
import Derived.Deep.AppendLies
import Derived.Maps.AppendAt
import Derived.OwnWalk
import Derived.Laws.BytesArg
import Derived.Laws.MakeOwn
import Derived.Laws.OwnMore
import Derived.Deep.OwnRows
import Derived.Tactics
import Derived.Lib.ConvBytes
import Derived.Laws.Slices
import Derived.WalkKit
import Derived.KernelRfl
import Derived.RowKit3
import Derived.Deep.LoopGhost
import Derived.Deep.QuietTactic
import Derived.BigQuiet
import Derived.WideLaws
import Derived.Deep.DeepCutAuto
import Derived.Deep.CutBlock
import Derived.Deep.RegionHeld3
import Derived.Laws.Rows
import Derived.Lib.AppendStr
import Derived.ArgAppend
import Derived.Laws.IdiomCopy
import Derived.OrdersHeld
import Derived.Laws.BitsLemmas
import Derived.RowKit
import Derived.Test.YtkidnomkfdnciaaW
import Derived.ScopeJumps
import Derived.WalkSpells
namespace Go.Proofs.Ytkidnomkfdnciaa.All
open Go.RowKit Go.Proofs.YtkidnomkfdnciaaW.PrintWords Go.Proofs.YtkidnomkfdnciaaW.PrintLast Go.Proofs.YtkidnomkfdnciaaW.PrintMore
attribute [local go_sem] max2_int min2_int max_two min_two max_three min_three max_four min_four
set_option linter.unusedVariables false
set_option linter.unusedSimpArgs false
def errW : Option Int → Value
 | none => .nilIface
 | some c => .iface 0 (.int .i64 c)
theorem errW_none : errW none = .nilIface := rfl
theorem errW_some (c : Int) : errW (some c) = .iface 0 (.int .i64 c) := rfl
theorem info3 : (Try.prog.info? 3).map (fun i => (i.zero, i.size, i.bytes)) = some (some (.int .i64 0), 1, 8) := by kernel_rfl
theorem info48 : (Try.prog.info? 48).map (fun i => (i.zero, i.size, i.bytes)) = some (some (.agg #[(.bool false), (.int .i64 0), (.int .i64 0), (.int .i64 0)]), 4, 32) := by kernel_rfl
theorem info68 : (Try.prog.info? 68).map (fun i => (i.zero, i.size, i.bytes)) = some (some (.agg #[(.int .i64 0), (.int .i64 0), (.int .i64 0)]), 3, 24) := by kernel_rfl
theorem info71 : (Try.prog.info? 71).map (fun i => (i.zero, i.size, i.bytes)) = some (some (.slice none 0 0), 1, 24) := by kernel_rfl
theorem info73 : (Try.prog.info? 73).map (fun i => (i.zero, i.size, i.bytes)) = some (some (.agg #[(.int .i64 0), (.int .i64 0)]), 2, 16) := by kernel_rfl
structure S48 where
 f0 : Bool
 f1 : Int
 f2 : Int
 f3 : Int
def z48 : S48 := ⟨false, (0 : Int), (0 : Int), (0 : Int)⟩
def k48 : Kd S48 := Kd.iso (Kd.pair Kd.bool (Kd.pair (Kd.int .i64) (Kd.pair (Kd.int .i64) (Kd.int .i64)))) (fun x : S48 => (x.f0, x.f1, x.f2, x.f3))
theorem k48_open {w : World} {x : S48} {cs : List Value} (h : k48.K w x cs) : cs = [.bool x.f0, .int .i64 x.f1, .int .i64 x.f2, .int .i64 x.f3] := by
 obtain ⟨_, _, rfl, rfl, ⟨_, _, rfl, rfl, ⟨_, _, rfl, rfl, rfl⟩⟩⟩ := h
 exact rfl
theorem k48_mk (w : World) (x : S48)  : k48.K w x [.bool x.f0, .int .i64 x.f1, .int .i64 x.f2, .int .i64 x.f3] := ⟨[.bool x.f0], [.int .i64 x.f1, .int .i64 x.f2, .int .i64 x.f3], rfl, rfl, ⟨[.int .i64 x.f1], [.int .i64 x.f2, .int .i64 x.f3], rfl, rfl, ⟨[.int .i64 x.f2], [.int .i64 x.f3], rfl, rfl, rfl⟩⟩⟩
theorem k48_mkM (w : World) (base : Nat) (ok : Nat → Prop) (x : S48)  : k48.M w base ok x [.bool x.f0, .int .i64 x.f1, .int .i64 x.f2, .int .i64 x.f3] := ⟨[.bool x.f0], [.int .i64 x.f1, .int .i64 x.f2, .int .i64 x.f3], rfl, rfl, ⟨[.int .i64 x.f1], [.int .i64 x.f2, .int .i64 x.f3], rfl, rfl, ⟨[.int .i64 x.f2], [.int .i64 x.f3], rfl, rfl, rfl⟩⟩⟩
def rd_T48 (xs : List S48) (i : Int) : S48 := xs.getD i.toNat z48
theorem at_T48 {w : World} {A : Option Addr} {n : Nat} {xs : List S48} (h : Kd.C k48 w A n xs) (i : Int) (h0 : 0 ≤ i) (h1 : i < n) : ∃ ad , A = some ad ∧ w.cell? (ad.add (i.toNat * 4)) = some (.bool (rd_T48 xs i).f0) ∧ w.cell? ⟨(ad.add (i.toNat * 4)).block, (ad.add (i.toNat * 4)).off + 1, none⟩ = some (.int .i64 (rd_T48 xs i).f1) ∧ w.cell? ⟨(ad.add (i.toNat * 4)).block, (ad.add (i.toNat * 4)).off + 2, none⟩ = some (.int .i64 (rd_T48 xs i).f2) ∧ w.cell? ⟨(ad.add (i.toNat * 4)).block, (ad.add (i.toNat * 4)).off + 3, none⟩ = some (.int .i64 (rd_T48 xs i).f3) := by
 obtain ⟨ad, c, e, _, hK, hc0⟩ := Kd.C_get h z48 i h0 h1
 have hc : ∀ j u, c[j]? = some u → w.cell? (ad.add (i.toNat * 4 + j)) = some u := hc0
 obtain rfl := k48_open hK
 exact ⟨ad, e, hc 0 _ rfl, by rw [← add_field _ _ 1 (by omega)]; exact hc 1 _ rfl, by rw [← add_field _ _ 2 (by omega)]; exact hc 2 _ rfl, by rw [← add_field _ _ 3 (by omega)]; exact hc 3 _ rfl⟩
structure S76 where
 f0 : Int
 f1 : S48
 f2 : Int
 f3 : Int
def z76 : S76 := ⟨(0 : Int), z48, (0 : Int), (0 : Int)⟩
def k76 : Kd S76 := Kd.iso (Kd.pair (Kd.int .i64) (Kd.pair k48 (Kd.pair (Kd.int .i64) (Kd.int .i64)))) (fun x : S76 => (x.f0, x.f1, x.f2, x.f3))
theorem k76_open {w : World} {x : S76} {cs : List Value} (h : k76.K w x cs) : cs = [.int .i64 x.f0, .bool x.f1.f0, .int .i64 x.f1.f1, .int .i64 x.f1.f2, .int .i64 x.f1.f3, .int .i64 x.f2, .int .i64 x.f3] := by
 obtain ⟨_, _, rfl, rfl, ⟨_, _, rfl, s1, ⟨_, _, rfl, rfl, rfl⟩⟩⟩ := h
 obtain rfl := k48_open s1
 exact rfl
theorem k76_mk (w : World) (x : S76)  : k76.K w x [.int .i64 x.f0, .bool x.f1.f0, .int .i64 x.f1.f1, .int .i64 x.f1.f2, .int .i64 x.f1.f3, .int .i64 x.f2, .int .i64 x.f3] := ⟨[.int .i64 x.f0], [.bool x.f1.f0, .int .i64 x.f1.f1, .int .i64 x.f1.f2, .int .i64 x.f1.f3, .int .i64 x.f2, .int .i64 x.f3], rfl, rfl, ⟨[.bool x.f1.f0, .int .i64 x.f1.f1, .int .i64 x.f1.f2, .int .i64 x.f1.f3], [.int .i64 x.f2, .int .i64 x.f3], rfl, (k48_mk w x.f1 ), ⟨[.int .i64 x.f2], [.int .i64 x.f3], rfl, rfl, rfl⟩⟩⟩
theorem k76_mkM (w : World) (base : Nat) (ok : Nat → Prop) (x : S76)  : k76.M w base ok x [.int .i64 x.f0, .bool x.f1.f0, .int .i64 x.f1.f1, .int .i64 x.f1.f2, .int .i64 x.f1.f3, .int .i64 x.f2, .int .i64 x.f3] := ⟨[.int .i64 x.f0], [.bool x.f1.f0, .int .i64 x.f1.f1, .int .i64 x.f1.f2, .int .i64 x.f1.f3, .int .i64 x.f2, .int .i64 x.f3], rfl, rfl, ⟨[.bool x.f1.f0, .int .i64 x.f1.f1, .int .i64 x.f1.f2, .int .i64 x.f1.f3], [.int .i64 x.f2, .int .i64 x.f3], rfl, (k48_mkM w base ok x.f1 ), ⟨[.int .i64 x.f2], [.int .i64 x.f3], rfl, rfl, rfl⟩⟩⟩
def rd_T76 (xs : List S76) (i : Int) : S76 := xs.getD i.toNat z76
theorem at_T76 {w : World} {A : Option Addr} {n : Nat} {xs : List S76} (h : Kd.C k76 w A n xs) (i : Int) (h0 : 0 ≤ i) (h1 : i < n) : ∃ ad , A = some ad ∧ w.cell? (ad.add (i.toNat * 7)) = some (.int .i64 (rd_T76 xs i).f0) ∧ w.cell? ⟨(ad.add (i.toNat * 7)).block, (ad.add (i.toNat * 7)).off + 1, none⟩ = some (.bool (rd_T76 xs i).f1.f0) ∧ w.cell? ⟨(ad.add (i.toNat * 7)).block, (ad.add (i.toNat * 7)).off + 2, none⟩ = some (.int .i64 (rd_T76 xs i).f1.f1) ∧ w.cell? ⟨(ad.add (i.toNat * 7)).block, (ad.add (i.toNat * 7)).off + 3, none⟩ = some (.int .i64 (rd_T76 xs i).f1.f2) ∧ w.cell? ⟨(ad.add (i.toNat * 7)).block, (ad.add (i.toNat * 7)).off + 4, none⟩ = some (.int .i64 (rd_T76 xs i).f1.f3) ∧ w.cell? ⟨(ad.add (i.toNat * 7)).block, (ad.add (i.toNat * 7)).off + 5, none⟩ = some (.int .i64 (rd_T76 xs i).f2) ∧ w.cell? ⟨(ad.add (i.toNat * 7)).block, (ad.add (i.toNat * 7)).off + 6, none⟩ = some (.int .i64 (rd_T76 xs i).f3) := by
 obtain ⟨ad, c, e, _, hK, hc0⟩ := Kd.C_get h z76 i h0 h1
 have hc : ∀ j u, c[j]? = some u → w.cell? (ad.add (i.toNat * 7 + j)) = some u := hc0
 obtain rfl := k76_open hK
 exact ⟨ad, e, hc 0 _ rfl, by rw [← add_field _ _ 1 (by omega)]; exact hc 1 _ rfl, by rw [← add_field _ _ 2 (by omega)]; exact hc 2 _ rfl, by rw [← add_field _ _ 3 (by omega)]; exact hc 3 _ rfl, by rw [← add_field _ _ 4 (by omega)]; exact hc 4 _ rfl, by rw [← add_field _ _ 5 (by omega)]; exact hc 5 _ rfl, by rw [← add_field _ _ 6 (by omega)]; exact hc 6 _ rfl⟩
structure S73 where
 f0 : Int
 f1 : Int
def z73 : S73 := ⟨(0 : Int), (0 : Int)⟩
def k73 : Kd S73 := Kd.iso (Kd.pair (Kd.int .i64) (Kd.int .i64)) (fun x : S73 => (x.f0, x.f1))
theorem k73_open {w : World} {x : S73} {cs : List Value} (h : k73.K w x cs) : cs = [.int .i64 x.f0, .int .i64 x.f1] := by
 obtain ⟨_, _, rfl, rfl, rfl⟩ := h
 exact rfl
theorem k73_mkM (w : World) (base : Nat) (ok : Nat → Prop) (x : S73)  : k73.M w base ok x [.int .i64 x.f0, .int .i64 x.f1] := ⟨[.int .i64 x.f0], [.int .i64 x.f1], rfl, rfl, rfl⟩
def rd_T73 (xs : List S73) (i : Int) : S73 := xs.getD i.toNat z73
theorem at_T73 {w : World} {A : Option Addr} {n : Nat} {xs : List S73} (h : Kd.C k73 w A n xs) (i : Int) (h0 : 0 ≤ i) (h1 : i < n) : ∃ ad , A = some ad ∧ w.cell? (ad.add (i.toNat * 2)) = some (.int .i64 (rd_T73 xs i).f0) ∧ w.cell? ⟨(ad.add (i.toNat * 2)).block, (ad.add (i.toNat * 2)).off + 1, none⟩ = some (.int .i64 (rd_T73 xs i).f1) := by
 obtain ⟨ad, c, e, _, hK, hc0⟩ := Kd.C_get h z73 i h0 h1
 have hc : ∀ j u, c[j]? = some u → w.cell? (ad.add (i.toNat * 2 + j)) = some u := hc0
 obtain rfl := k73_open hK
 exact ⟨ad, e, hc 0 _ rfl, by rw [← add_field _ _ 1 (by omega)]; exact hc 1 _ rfl⟩
def rd_L5 (xs : List (List S76)) (i : Int) : (List S76) := xs.getD i.toNat ([] : List S76)
theorem at_L5 {w : World} {A : Option Addr} {n : Nat} {xs : List (List S76)} (h : Kd.C (Kd.slice 76 k76) w A n xs) (i : Int) (h0 : 0 ≤ i) (h1 : i < n) : ∃ ad A0 c0, A = some ad ∧ w.cell? (ad.add i.toNat) = some (.slice A0 (rd_L5 xs i).length c0) ∧ (rd_L5 xs i).length ≤ c0 ∧ k76.C w A0 (rd_L5 xs i).length (rd_L5 xs i) := by
 obtain ⟨ad, c, e, _, hK, hc0⟩ := Kd.C_get h ([] : List S76) i h0 h1
 have hc : ∀ j u, c[j]? = some u → w.cell? (ad.add (i.toNat * 1 + j)) = some u := hc0
 obtain ⟨A0, c0, rfl, l0, g0⟩ := hK
 exact ⟨ad, A0, c0, e, by have hq := hc 0 _ rfl; rwa [Nat.mul_one, Nat.add_zero] at hq, l0, g0⟩
def rd_L6 (xs : List (List S73)) (i : Int) : (List S73) := xs.getD i.toNat ([] : List S73)
theorem at_L6 {w : World} {A : Option Addr} {n : Nat} {xs : List (List S73)} (h : Kd.C (Kd.slice 73 k73) w A n xs) (i : Int) (h0 : 0 ≤ i) (h1 : i < n) : ∃ ad A0 c0, A = some ad ∧ w.cell? (ad.add i.toNat) = some (.slice A0 (rd_L6 xs i).length c0) ∧ (rd_L6 xs i).length ≤ c0 ∧ k73.C w A0 (rd_L6 xs i).length (rd_L6 xs i) := by
 obtain ⟨ad, c, e, _, hK, hc0⟩ := Kd.C_get h ([] : List S73) i h0 h1
 have hc : ∀ j u, c[j]? = some u → w.cell? (ad.add (i.toNat * 1 + j)) = some u := hc0
 obtain ⟨A0, c0, rfl, l0, g0⟩ := hK
 exact ⟨ad, A0, c0, e, by have hq := hc 0 _ rfl; rwa [Nat.mul_one, Nat.add_zero] at hq, l0, g0⟩
structure S68 where
 f0 : Int
 f1 : Int
 f2 : Int
def z68 : S68 := ⟨(0 : Int), (0 : Int), (0 : Int)⟩
def k68 : Kd S68 := Kd.iso (Kd.pair (Kd.int .i64) (Kd.pair (Kd.int .i64) (Kd.int .i64))) (fun x : S68 => (x.f0, x.f1, x.f2))
theorem k68_open {w : World} {x : S68} {cs : List Value} (h : k68.K w x cs) : cs = [.int .i64 x.f0, .int .i64 x.f1, .int .i64 x.f2] := by
 obtain ⟨_, _, rfl, rfl, ⟨_, _, rfl, rfl, rfl⟩⟩ := h
 exact rfl
theorem k68_openM {w : World} {base : Nat} {ok : Nat → Prop} {x : S68} {cs : List Value} (h : k68.M w base ok x cs) : cs = [.int .i64 x.f0, .int .i64 x.f1, .int .i64 x.f2] := by
 obtain ⟨_, _, rfl, rfl, ⟨_, _, rfl, rfl, rfl⟩⟩ := h
 exact rfl
theorem k68_mkM (w : World) (base : Nat) (ok : Nat → Prop) (x : S68)  : k68.M w base ok x [.int .i64 x.f0, .int .i64 x.f1, .int .i64 x.f2] := ⟨[.int .i64 x.f0], [.int .i64 x.f1, .int .i64 x.f2], rfl, rfl, ⟨[.int .i64 x.f1], [.int .i64 x.f2], rfl, rfl, rfl⟩⟩
def rd_T68 (xs : List S68) (i : Int) : S68 := xs.getD i.toNat z68
theorem at_T68 {w : World} {A : Option Addr} {n : Nat} {xs : List S68} (h : Kd.C k68 w A n xs) (i : Int) (h0 : 0 ≤ i) (h1 : i < n) : ∃ ad , A = some ad ∧ w.cell? (ad.add (i.toNat * 3)) = some (.int .i64 (rd_T68 xs i).f0) ∧ w.cell? ⟨(ad.add (i.toNat * 3)).block, (ad.add (i.toNat * 3)).off + 1, none⟩ = some (.int .i64 (rd_T68 xs i).f1) ∧ w.cell? ⟨(ad.add (i.toNat * 3)).block, (ad.add (i.toNat * 3)).off + 2, none⟩ = some (.int .i64 (rd_T68 xs i).f2) := by
 obtain ⟨ad, c, e, _, hK, hc0⟩ := Kd.C_get h z68 i h0 h1
 have hc : ∀ j u, c[j]? = some u → w.cell? (ad.add (i.toNat * 3 + j)) = some u := hc0
 obtain rfl := k68_open hK
 exact ⟨ad, e, hc 0 _ rfl, by rw [← add_field _ _ 1 (by omega)]; exact hc 1 _ rfl, by rw [← add_field _ _ 2 (by omega)]; exact hc 2 _ rfl⟩
end Go.Proofs.Ytkidnomkfdnciaa.All
namespace Go.Proofs.Ytkidnomkfdnciaa.All
open Go.RowKit Go.Proofs.YtkidnomkfdnciaaW.PrintWords
instance : DecidableEq S48 := fun x y =>
 decidable_of_iff (x.f0 = y.f0 ∧ x.f1 = y.f1 ∧ x.f2 = y.f2 ∧ x.f3 = y.f3) ⟨fun h => by obtain ⟨a, b, c, d⟩ := x; obtain ⟨a', b', c', d'⟩ := y; obtain ⟨rfl, rfl, rfl, rfl⟩ := h; rfl, fun h => by rw [h]; exact ⟨rfl, rfl, rfl, rfl⟩⟩
def mayB (p : List Int) : Bool := (List.range p.length).all (fun i => decide (0 ≤ p.getD i 0) && decide (p.getD i 0 ≤ (i : Int))) && decide (p.length ≤ 400)
def upN (p : List Int) : Nat → Nat → Nat
 | 0, i => i
 | f + 1, i => if p.getD i 0 = (i : Int) then i else upN p f (p.getD i 0).toNat
def rootN (p : List Int) (i : Nat) : Nat := upN p i i
def rootZ (p : List Int) (i : Int) : Int := (rootN p i.toNat : Int)
def inB (p : List Int) (i : Int) : Bool := decide (0 ≤ i) && decide (i < (p.length : Int))
def findS (p : List Int) (i : Int) : Int := if (mayB p && inB p i) = true then rootZ p i else -1
def rootsS (p : List Int) : List Int := if mayB p = true then (List.range p.length).map (fun i => (rootN p i : Int)) else []
def joinS (p : List Int) (a b : Int) : List Int × Bool :=
 if findS p a = -1 then (p, false) else if findS p b = -1 then (p, false) else
 ((rootsS p).map (fun r => if r = max (findS p a) (findS p b) then min (findS p a) (findS p b) else r), true)
def canonS (roots : List Int) (n : S48) : S48 := if n.f0 = true then ⟨n.f0, n.f1, rd roots n.f2, rd roots n.f3⟩ else n
def nodeB (P : List Int) (n : S48) : Bool := if n.f0 = true then decide (n.f1 = 0) && (inB P n.f2 && inB P n.f3) else decide (n.f2 = 0) && decide (n.f3 = 0) && (decide (0 ≤ n.f1) && decide (n.f1 < 4))
def formB (N : List S48) (G P : List Int) : Bool := mayB P && (decide (G.length = N.length) && (decide (N.length ≤ 400) && (!(G.any fun g => !inB P g) && !(N.any fun n => !nodeB P n))))
def posN (cs : List S48) (x : S48) : Nat → Option Nat
 | 0 => none
 | k + 1 => match posN cs x k with
  | some i => some i
  | none => if cs.getD k z48 = x then some k else none
def confN (cs : List S48) (G R : List Int) : Nat → Nat → Option (Int × Int)
 | 0, _ => none
 | d + 1, k => match posN cs (cs.getD k z48) k with
  | none => confN cs G R d (k + 1)
  | some i => if rd R (G.getD i 0) = rd R (G.getD k 0) then confN cs G R d (k + 1) else some (G.getD i 0, G.getD k 0)
def canonsS (N : List S48) (P : List Int) : List S48 := N.map (canonS (rootsS P))
def confS (N : List S48) (G P : List Int) : Option (Int × Int) := confN (canonsS N P) G (rootsS P) N.length 0
def mayMB (N : List S48) (G P : List Int) : Bool := formB N G P && (confS N G P).isNone
def limI (l : List Int) : Bool := decide (l.length * 8 ≤ 140737488355328)
def limN (l : List S48) : Bool := decide (l.length * 32 ≤ 140737488355328)
def limE (l : List S68) : Bool := decide (l.length * 24 ≤ 140737488355328)
theorem mayB_at {p : List Int} (h : mayB p = true) (i : Nat) (hi : i < p.length) : 0 ≤ p.getD i 0 ∧ p.getD i 0 ≤ (i : Int) := by
 simp only [mayB, Bool.and_eq_true, List.all_eq_true, decide_eq_true_eq, List.mem_range] at h
 exact h.1 i hi
theorem mayB_len {p : List Int} (h : mayB p = true) : p.length ≤ 400 := by
 simp only [mayB, Bool.and_eq_true, decide_eq_true_eq] at h
 exact h.2
theorem mayB_of {p : List Int} (h : ∀ i, i < p.length → 0 ≤ p.getD i 0 ∧ p.getD i 0 ≤ (i : Int)) (hl : p.length ≤ 400) : mayB p = true := by
 simp only [mayB, Bool.and_eq_true, List.all_eq_true, decide_eq_true_eq, List.mem_range]
 exact ⟨h, hl⟩
end Go.Proofs.Ytkidnomkfdnciaa.All
namespace Go.Proofs.Ytkidnomkfdnciaa.All
open Go.RowKit Go.Proofs.YtkidnomkfdnciaaW.PrintWords Go.Proofs.YtkidnomkfdnciaaW.PrintLast Go.Proofs.YtkidnomkfdnciaaW.PrintMore
attribute [local go_sem] max2_int min2_int max_two min_two max_three min_three max_four min_four
set_option linter.unusedVariables false
set_option linter.unusedSimpArgs false
theorem eqA48 (d : Nat) (w : World) (x0 y0 : Bool) (x1 y1 : Int) (x2 y2 : Int) (x3 y3 : Int) :
  (Op.equalIn (d + 2) 48 (.agg #[.bool x0, .int .i64 x1, .int .i64 x2, .int .i64 x3]) (.agg #[.bool y0, .int .i64 y1, .int .i64 y2, .int .i64 y3])).run Try.prog w = .ok (x0 == y0 && (x1 == y1 && (x2 == y2 && (x3 == y3)))) w := by
 refine eqA_of Try.underlying48 (by kernel_rfl) ?_
 refine eqf_cons (by rfl) (by go_simp; rfl) (by go_simp; rfl) (by go_simp) ?_
 refine eqf_cons (by rfl) (by go_simp; rfl) (by go_simp; rfl) (by go_simp) ?_
 refine eqf_cons (by rfl) (by go_simp; rfl) (by go_simp; rfl) (by go_simp) ?_
 exact eqf_last (by rfl) (by go_simp; rfl) (by go_simp; rfl) (by go_simp)
end Go.Proofs.Ytkidnomkfdnciaa.All
namespace Go.Proofs.Ytkidnomkfdnciaa.All
open Go.RowKit Go.Proofs.YtkidnomkfdnciaaW.PrintWords Go.Proofs.YtkidnomkfdnciaaW.PrintLast Go.Proofs.YtkidnomkfdnciaaW.PrintMore
attribute [local go_sem] max2_int min2_int max_two min_two max_three min_three max_four min_four
set_option linter.unusedVariables false
set_option linter.unusedSimpArgs false
attribute [local go_sem high] eqA48
def sets_May.l0 : Nat → List Int → List Int → Int → Int → Option (Bool)
 | 0, _, _, _, _ => none
 | k + 1, x0, x5, x6, x7 => if x7 < x6 then (if 0 ≤ x7 then (if x7 < (x5.length : Int) then (if (rd x5 x7) < 0 then (some false) else (if (rd x5 x7) > x7 then (some false) else (sets_May.l0 k x0 x5 x6 (wrap64 (x7 + 1))))) else (none)) else (none)) else (some (decide ((x0.length : Int) ≤ 400)))
def sets_May.f (k : Nat) (l0 : List Int) : Option (Bool) := sets_May.l0 k l0 l0 (l0.length : Int) 0
set_option maxHeartbeats 8000000 in
set_option maxRecDepth 100000 in
theorem sets_May.calls (k : Nat) (A0 : Option Addr) (c0 : Nat) (l0 : List Int) (r : Bool) (w : World) (hr0 : Kd.C (Kd.int .i64) w A0 l0.length l0) (hc0 : l0.length ≤ c0) (h : sets_May.f k l0 = some r) :
  Calls Try.prog 25 #[.slice A0 l0.length c0] w fun e w' => e = .returned (.bool r) ∧ Drawn0 w w' := by
 have HR0 := Aside0.mk hr0
 have HC0 := Aside0.mk hc0
 clear hr0 hc0
 have H : (sets_May.l0 k l0 l0 (l0.length : Int) 0) = some r := h
 clear h
 have H' := Aside0.mk H
 clear H
 go_enter Try.func25, Try.ntmps25
 go_wp2
 go_loopg [7] k (fun kq v7 w' => ∃ (x7_1 : Int), v7 = .int .i64 x7_1 ∧ Aside0 (sets_May.l0 kq l0 l0 (l0.length : Int) x7_1 = some r) ∧ Aside0 (kq ≤ k) ∧ Drawn0 w w')
 case atStart => exact ⟨(0), (by rfl), H', ⟨Nat.le_refl _⟩, by repeat (exact Drawn0.refl _)⟩
 case round =>
  clear H'
  obtain ⟨x7_1, rfl, HA, HK1, ⟨m1, rfl⟩⟩ := hrel
  cases gk with
  | zero => exact absurd HA.out (by simp [sets_May.l0])
  | succ k1 =>
   have H := HA.out
   clear HA
   simp only [sets_May.l0] at H
   by_cases c2 : x7_1 < (l0.length : Int)
   ·rw [if_pos c2] at H
    have c2b0 : decide (x7_1 < (l0.length : Int)) = true := decide_eq_true c2
    clear c2
    by_cases c3 : 0 ≤ x7_1
    ·rw [if_pos c3] at H
     have c3b0 : decide (0 ≤ x7_1) = true := decide_eq_true c3
     clear c3
     by_cases c4 : x7_1 < (l0.length : Int)
     ·rw [if_pos c4] at H
      have c4b0 : decide (x7_1 < (l0.length : Int)) = true := decide_eq_true c4
      clear c4
      by_cases c5 : (rd l0 x7_1) < 0
      ·rw [if_pos c5] at H
       have c5b0 : decide ((rd l0 x7_1) < 0) = true := decide_eq_true c5
       clear c5
       obtain rfl := Option.some.inj H
       have p11 : 0 ≤ (x7_1 : Int) := of_decide_eq_true (by (with_reducible assumption))
       have q11 : x7_1 < (l0.length : Int) := of_decide_eq_true (by (with_reducible assumption))
       obtain ⟨ad11, e11, hx11_0⟩ := Kd.at_int HR0.out x7_1 p11 q11
       cases e11
       replace p11 := eq_true p11
       replace q11 := eq_true q11
       go_wp2
       go_ret
       exact ⟨by rfl, by repeat (first | exact Drawn0.refl _ | apply Drawn0.step)⟩
      ·rw [if_neg c5] at H
       have c5b0 : decide ((rd l0 x7_1) < 0) = false := decide_eq_false c5
       clear c5
       by_cases c6 : (rd l0 x7_1) > x7_1
       ·rw [if_pos c6] at H
        have c6b0 : decide (x7_1 < (rd l0 x7_1)) = true := decide_eq_true c6
        clear c6
        obtain rfl := Option.some.inj H
        have p11 : 0 ≤ (x7_1 : Int) := of_decide_eq_true (by (with_reducible assumption))
        have q11 : x7_1 < (l0.length : Int) := of_decide_eq_true (by (with_reducible assumption))
        obtain ⟨ad11, e11, hx11_0⟩ := Kd.at_int HR0.out x7_1 p11 q11
        cases e11
        replace p11 := eq_true p11
        replace q11 := eq_true q11
        go_wp2
        go_ret
        exact ⟨by rfl, by repeat (first | exact Drawn0.refl _ | apply Drawn0.step)⟩
       ·rw [if_neg c6] at H
        have c6b0 : decide (x7_1 < (rd l0 x7_1)) = false := decide_eq_false c6
        clear c6
        have H' := Aside0.mk H
        clear H
        have p11 : 0 ≤ (x7_1 : Int) := of_decide_eq_true (by (with_reducible assumption))
        have q11 : x7_1 < (l0.length : Int) := of_decide_eq_true (by (with_reducible assumption))
        obtain ⟨ad11, e11, hx11_0⟩ := Kd.at_int HR0.out x7_1 p11 q11
        cases e11
        replace p11 := eq_true p11
        replace q11 := eq_true q11
        go_wp2
        go_roundg k1
        case measure => have := HK1.out; omega
        case rel => exact ⟨(wrap64 (x7_1 + 1)), (by rfl), H', ⟨by have := HK1.out; omega⟩, by repeat (first | exact Drawn0.refl _ | apply Drawn0.step)⟩
     ·rw [if_neg c4] at H
      exact absurd H (by simp)
    ·rw [if_neg c3] at H
     exact absurd H (by simp)
   ·rw [if_neg c2] at H
    have c2b0 : decide (x7_1 < (l0.length : Int)) = false := decide_eq_false c2
    clear c2
    obtain rfl := Option.some.inj H
    go_wp2
    go_ret
    exact ⟨by rfl, by repeat (first | exact Drawn0.refl _ | apply Drawn0.step)⟩
theorem wrap_in {x : Int} (h0 : -9223372036854775808 ≤ x) (h1 : x ≤ 9223372036854775807) : wrap64 x = x := by unfold wrap64; omega
theorem may_loop (p : List Int) (hp : p.length ≤ 9223372036854775807) (d : Nat) : ∀ (k i : Nat), i + d = p.length → d < k → (∀ j, j < i → 0 ≤ p.getD j 0 ∧ p.getD j 0 ≤ (j : Int)) →
  sets_May.l0 k p p (p.length : Int) (i : Int) = some (mayB p) := by
 induction d with
 | zero =>
  intro k i hi hk hj
  obtain ⟨k, rfl⟩ : ∃ m, k = m + 1 := ⟨k - 1, by omega⟩
  simp only [sets_May.l0]
  rw [if_neg (by omega)]
  congr 1
  rw [Bool.eq_iff_iff, decide_eq_true_eq]
  exact ⟨fun h => mayB_of (fun j h' => hj j (by omega)) (by omega), fun h => by have := mayB_len h; omega⟩
 | succ d ih =>
  intro k i hi hk hj
  obtain ⟨k, rfl⟩ : ∃ m, k = m + 1 := ⟨k - 1, by omega⟩
  simp only [sets_May.l0]
  have hr : rd p (i : Int) = p.getD i 0 := by simp [rd]
  rw [if_pos (by omega), if_pos (by omega), if_pos (by omega), hr]
  by_cases h1 : p.getD i 0 < 0
  ·rw [if_pos h1]
   cases hb : mayB p
   ·rfl
   ·have := mayB_at hb i (by omega); omega
  rw [if_neg h1]
  by_cases h2 : p.getD i 0 > (i : Int)
  ·rw [if_pos h2]
   cases hb : mayB p
   ·rfl
   ·have := mayB_at hb i (by omega); omega
  rw [if_neg h2, wrap_in (by omega) (by omega)]
  refine ih k (i + 1) (by omega) (by omega) fun j hj' => ?_
  rcases Nat.lt_or_ge j i with h | h
  ·exact hj j h
  ·obtain rfl : j = i := by omega
   omega
theorem may_some (p : List Int) (hp : p.length ≤ 9223372036854775807) : sets_May.f (p.length + 1) p = some (mayB p) := by
 unfold sets_May.f
 exact may_loop p hp p.length (p.length + 1) 0 (by omega) (by omega) (fun j hj => by omega)
theorem may_calls (A : Option Addr) (c : Nat) (p : List Int) (w : World) (hr : Kd.C (Kd.int .i64) w A p.length p) (hc : p.length ≤ c) :
  Calls Try.prog 25 #[.slice A p.length c] w fun e w' => e = .returned (.bool (mayB p)) ∧ Drawn0 w w' :=
 sets_May.calls _ A c p _ w hr hc (may_some p hr.2.1)
theorem upN_le (p : List Int) (hm : mayB p = true) : ∀ (f i : Nat), i < p.length → upN p f i ≤ i
 | 0, i, _ => Nat.le_refl _
 | f + 1, i, h => by
  have := mayB_at hm i h
  unfold upN
  split
  ·exact Nat.le_refl _
  ·have := upN_le p hm f (p.getD i 0).toNat (by omega)
   omega
theorem upN_fuel (p : List Int) (hm : mayB p = true) : ∀ (f g i : Nat), i < p.length → i ≤ f → i ≤ g → upN p f i = upN p g i
 | 0, g, i, h, hf, hg => by
  obtain rfl : i = 0 := by omega
  have h0 := mayB_at hm 0 h
  cases g with
  | zero => rfl
  | succ g => unfold upN; rw [if_pos (by omega)]
 | f + 1, 0, i, h, hf, hg => by
  obtain rfl : i = 0 := by omega
  have h0 := mayB_at hm 0 h
  unfold upN; rw [if_pos (by omega)]
 | f + 1, g + 1, i, h, hf, hg => by
  have h0 := mayB_at hm i h
  simp only [upN]
  split
  ·rfl
  ·exact upN_fuel p hm f g _ (by omega) (by omega) (by omega)
theorem rootN_step (p : List Int) (hm : mayB p = true) (i : Nat) (hi : i < p.length) : rootN p i = if p.getD i 0 = (i : Int) then i else rootN p (p.getD i 0).toNat := by
 have h0 := mayB_at hm i hi
 unfold rootN
 cases i with
 | zero => rw [if_pos (by omega)]; rfl
 | succ i =>
  rw [upN]
  split
  ·rfl
  ·exact upN_fuel p hm _ _ _ (by omega) (by omega) (Nat.le_refl _)
def sets_Find.f (_ : Nat) (l0 : List Int) (a1 : Int) : Option Int := some (findS l0 a1)
theorem find_no (A0 : Option Addr) (c0 : Nat) (l0 : List Int) (a1 : Int) (w : World) (hr0 : Kd.C (Kd.int .i64) w A0 l0.length l0) (hc0 : l0.length ≤ c0) (hno : (mayB l0 && inB l0 a1) = false) :
  Calls Try.prog 26 #[.slice A0 l0.length c0, .int .i64 a1] w fun e w' => e = .returned (.int .i64 (-1)) ∧ Drawn0 w w' := by
 have HR0 := Aside0.mk hr0
 have HC0 := Aside0.mk hc0
 clear hr0 hc0
 cases hm : mayB l0 with
 | false =>
  have HM := Aside0.mk hm
  clear hm hno
  go_enter Try.func26, Try.ntmps26
  go_wp2
  refine wp_scope_jumps 0 (fun _ _ => False) (fun _ _ => 0) rfl ?_ (fun _ _ h => h.elim)
  go_wp2_with (go_at_call 25; have mc := may_calls A0 c0 l0 w HR0.out HC0.out; rw [HM.out] at mc; refine mc.mono ?_; rintro e w' ⟨rfl, hd⟩; clear mc)
  simp only [Exit.jump]
  go_ret
  exact ⟨rfl, hd⟩
 | true =>
  have HM := Aside0.mk hm
  have hb : a1 < 0 ∨ (0 ≤ a1 ∧ (l0.length : Int) ≤ a1) := by
   rw [hm, Bool.true_and] at hno
   simp only [inB, Bool.and_eq_false_iff, decide_eq_false_iff_not] at hno
   omega
  clear hm hno
  have HMC := Aside0.mk (fun (w' : World) (hr : Kd.C (Kd.int .i64) w' A0 l0.length l0) => may_calls A0 c0 l0 w' hr HC0.out)
  rcases hb with h1 | ⟨h1, h2⟩
  ·go_enter Try.func26, Try.ntmps26
   go_wp2
   refine wp_scope_jumps 0 (fun _ _ => False) (fun _ _ => 0) rfl ?_ (fun _ _ h => h.elim)
   go_wp2_with (go_at_call 25; have mc := may_calls A0 c0 l0 w HR0.out HC0.out; rw [HM.out] at mc; refine mc.mono ?_; rintro e w' ⟨rfl, hd⟩; clear mc)
   simp only [Exit.jump]
   go_ret
   exact ⟨rfl, hd⟩
  ·go_enter Try.func26, Try.ntmps26
   go_wp2
   refine wp_scope_jumps 0 (fun _ _ => False) (fun _ _ => 0) rfl ?_ (fun _ _ h => h.elim)
   go_wp2_with (go_at_call 25; have mc := may_calls A0 c0 l0 w HR0.out HC0.out; rw [HM.out] at mc; refine mc.mono ?_; rintro e w' ⟨rfl, hd⟩; clear mc)
   simp only [Exit.jump]
   go_ret
   exact ⟨rfl, hd⟩
theorem find_yes (A0 : Option Addr) (c0 : Nat) (l0 : List Int) (i : Nat) (w : World) (hr0 : Kd.C (Kd.int .i64) w A0 l0.length l0) (hc0 : l0.length ≤ c0) (hm : mayB l0 = true) (hi : i < l0.length) :
  Calls Try.prog 26 #[.slice A0 l0.length c0, .int .i64 (i : Int)] w fun e w' => e = .returned (.int .i64 ((rootN l0 i : Nat) : Int)) ∧ Drawn0 w w' := by
 have HR0 := Aside0.mk hr0
 have HC0 := Aside0.mk hc0
 have HM := Aside0.mk hm
 have hmax : l0.length ≤ 400 := mayB_len hm
 clear hr0 hc0 hm
 have h1 : decide (l0.length ≤ i) = false := by simp; omega
 go_enter Try.func26, Try.ntmps26
 go_wp2
 refine wp_scope_jumps 0 (fun a' w' => Drawn0 w w' ∧ ∃ (m : Nat) (x6 x7 x8 x9 x10 x11 x12 x13 x14 x15 x16 x17 x18 x19 x20 x21 x22 x23 x24 x25 x26 x27 x28 : Value), a' = ⟨#[.slice A0 l0.length c0, .int .i64 (m : Int), undef, undef, .int .i64 0, .slice A0 l0.length c0, x6, x7, x8, x9, x10, x11, x12, x13, x14, x15, x16, x17, x18, x19, x20, x21, x22, x23, x24, x25, x26, x27, x28], []⟩ ∧ m < l0.length ∧ rootN l0 m = rootN l0 i) (fun a' _ => (intOf (a'.tmps.getD 1 undef)).toNat) rfl ?_ ?_
 ·go_wp2_with ((go_at_call 25; have mc := may_calls A0 c0 l0 w HR0.out HC0.out; rw [HM.out] at mc; refine mc.mono ?_; rintro e w' ⟨rfl, hd⟩; clear mc))
  go_step3
  have HD := Aside0.mk hd
  clear hd
  obtain ⟨ad, rfl, hc⟩ := Kd.at_int (Kd.C_below HR0.out HD.out.below) (i : Int) (by omega) (by omega)
  rw [Int.toNat_natCast] at hc
  have hb := mayB_at HM.out i (by omega)
  have hst := rootN_step l0 HM.out i (by omega)
  have hrd : rd l0 (i : Int) = l0.getD i 0 := by simp [rd]
  rw [hrd] at hc
  obtain ⟨q, hq⟩ := Int.eq_ofNat_of_zero_le hb.1
  rw [hq] at hc hb hst
  clear hrd hq
  by_cases he : q = i
  ·obtain rfl : i = q := he.symm
   rw [if_pos rfl] at hst
   have HE : Aside0 (rootN l0 i = i) := ⟨hst⟩
   clear hst
   go_wp2
   simp only [Exit.jump]
   go_ret
   exact ⟨by rw [HE.out]; rfl, HD.out⟩
  ·rw [if_neg (by omega), Int.toNat_natCast] at hst
   have HN : Aside0 (rootN l0 q = rootN l0 i) := ⟨hst.symm⟩
   have hq : q < l0.length := by omega
   have hqm : q < i := by omega
   clear hst hb
   have hne : ((q : Int) != (i : Int)) = true := by rw [bne_iff_ne]; omega
   go_wp2
   go_step3
   exact ⟨rfl, HD.out, q, _, _, _, _, _, _, _, _, _, _, _, _, _, _, _, _, _, _, _, _, _, _, _, rfl, hq, HN.out⟩
 ·rintro a' w' ⟨hd, m, x6, x7, x8, x9, x10, x11, x12, x13, x14, x15, x16, x17, x18, x19, x20, x21, x22, x23, x24, x25, x26, x27, x28, rfl, hml, hroot⟩
  have HD := Aside0.mk hd
  have HROOT := Aside0.mk hroot
  clear hd hroot
  obtain ⟨ad, rfl, hc⟩ := Kd.at_int (Kd.C_below HR0.out HD.out.below) (m : Int) (by omega) (by omega)
  rw [Int.toNat_natCast] at hc
  have hb := mayB_at HM.out m (by omega)
  have hst := rootN_step l0 HM.out m (by omega)
  have hrd : rd l0 (m : Int) = l0.getD m 0 := by simp [rd]
  rw [hrd] at hc
  obtain ⟨q, hq⟩ := Int.eq_ofNat_of_zero_le hb.1
  rw [hq] at hc hb hst
  clear hrd hq
  by_cases he : q = m
  ·obtain rfl : m = q := he.symm
   rw [if_pos rfl] at hst
   have HE : Aside0 (rootN l0 i = m) := ⟨HROOT.out.symm.trans hst⟩
   clear hst
   go_wp2
   simp only [Exit.jump]
   go_ret
   exact ⟨by rw [HE.out]; rfl, HD.out⟩
  ·rw [if_neg (by omega), Int.toNat_natCast] at hst
   have HN : Aside0 (rootN l0 q = rootN l0 i) := ⟨hst.symm.trans HROOT.out⟩
   have hq : q < l0.length := by omega
   have hqm : q < m := by omega
   clear hst hb
   have hne : ((q : Int) != (m : Int)) = true := by rw [bne_iff_ne]; omega
   go_wp2
   go_step3
   refine ⟨rfl, ⟨HD.out, q, _, _, _, _, _, _, _, _, _, _, _, _, _, _, _, _, _, _, _, _, _, _, _, rfl, hq, HN.out⟩, ?_⟩
   simp [intOf]; omega
theorem sets_Find.calls (k : Nat) (A0 : Option Addr) (c0 : Nat) (l0 : List Int) (a1 : Int) (r : Int) (w : World) (hr0 : Kd.C (Kd.int .i64) w A0 l0.length l0) (hc0 : l0.length ≤ c0) (h : sets_Find.f k l0 a1 = some r) :
  Calls Try.prog 26 #[.slice A0 l0.length c0, .int .i64 a1] w fun e w' => e = .returned (.int .i64 r) ∧ Drawn0 w w' := by
 obtain rfl := Option.some.inj h
 unfold findS
 split
 ·rename_i hh
  simp only [Bool.and_eq_true, inB, decide_eq_true_eq] at hh
  obtain ⟨i, rfl⟩ := Int.eq_ofNat_of_zero_le hh.2.1
  exact find_yes A0 c0 l0 i w hr0 hc0 hh.1 (by omega)
 ·rename_i hh
  exact find_no A0 c0 l0 a1 w hr0 hc0 (by simpa using hh)
def slices_Clone_int_int.f (_ : Nat) (l0 : List Int) : Option (List Int) := if limI l0 = true then some l0 else none
set_option maxHeartbeats 4000000 in
set_option maxRecDepth 100000 in
theorem slices_Clone_int_int.yes (k : Nat) (A0 : Option Addr) (c0 : Nat) (l0 : List Int) (w : World) (hr0 : Kd.C (Kd.int .i64) w A0 l0.length l0) (hc0 : l0.length ≤ c0) (hl : l0.length * 8 ≤ 140737488355328) :
  Calls Try.prog 72 #[.slice A0 l0.length c0] w fun e w' => ∃ v0_ : Value, e = .returned (v0_) ∧ Kd.R (Kd.int .i64) 3 w' w.heap.size (fun _ => True) v0_ l0 ∧ Below w.heap.size w w' := by
 have hn := fun (W : World) (a : Option Addr) (n c : Nat) => Lib.run_eql_slice_nil (P := Try.prog) W 22 3 a n c 0 0 Try.underlying22
 rcases A0 with _ | ad
 ·have h0 : l0 = [] := by
   apply List.eq_nil_of_length_eq_zero
   rcases Nat.eq_zero_or_pos l0.length with h | h
   ·exact h
   ·obtain ⟨ad, ha, _⟩ := hr0.2.2 h
    cases ha
  subst h0
  clear hr0 hc0 hl
  go_enter Try.func72, Try.ntmps72
  go_wp2
  go_ret
  exact ⟨_, rfl, Kd.R_nil _ _ _ _ _, Below.refl _ _⟩
 ·have HR0 := Aside0.mk hr0
  have HL := Aside0.mk hl
  clear hr0 hc0 hl
  go_enter Try.func72, Try.ntmps72
  go_wp2_with (first
   | ((with_reducible refine gate_dst (N := 5) rfl ?_); refine Kd.R_lit (Kd.int .i64) w.heap.size 3 ?hg (N := 5) ?hd (xs := ([] : List Int)) (inner := []) (ok := fun _ => True) (okp := fun _ => True) ?hr (Reps.none _ _) (fun _ h => h) trivial (Below.refl _ _) (Nat.le_refl _) (by simp) ?_; (case hd => rfl); (case hg => rfl); (case hr => first | (go_simp; done) ); intro v1 w1 ho1 hb1 hg1 hat1; have HO1 := Aside0.mk ho1; have HB1 := Aside0.mk hb1; clear ho1 hb1 hg1 hat1)
   | ((with_reducible refine gate_builtin (b := .append) (xs := #[.tmp 5, .tmp 6]) rfl ?_); refine Kd.R_append_rows (Kd.int .i64) (w0 := w) w.heap.size rfl (.tmp 5) (.tmp 6) 22 3 (.int .i64 0) 8 rfl Try.underlying22 info3 rfl (by decide) (by omega) v1 [] l0 _ _ _ (fun _ => True) (fun _ => False) rfl rfl HO1.out (Kd.C_below HR0.out HB1.out) ?hkm (fun _ h => h.elim) (fun _ _ => trivial) HB1.out HB1.out.size (by simpa using HL.out) ?_; (case hkm => exact fun x cs h => h); intro v2 w2 ho2 hb2 hg2 hat2; have HO2 := Aside0.mk ho2; have HB2 := Aside0.mk hb2; clear ho2 hb2 hg2 hat2))
  go_ret
  exact ⟨_, rfl, HO2.out, HB2.out⟩
theorem slices_Clone_int_int.calls (k : Nat) (A0 : Option Addr) (c0 : Nat) (l0 : List Int) (r : List Int) (w : World) (hr0 : Kd.C (Kd.int .i64) w A0 l0.length l0) (hc0 : l0.length ≤ c0) (h : slices_Clone_int_int.f k l0 = some r) :
  Calls Try.prog 72 #[.slice A0 l0.length c0] w fun e w' => ∃ v0_ : Value, e = .returned (v0_) ∧ Kd.R (Kd.int .i64) 3 w' w.heap.size (fun _ => True) v0_ r ∧ Below w.heap.size w w' := by
 unfold slices_Clone_int_int.f at h
 split at h
 ·rename_i hl
  obtain rfl := Option.some.inj h
  simp only [limI, decide_eq_true_eq] at hl
  exact slices_Clone_int_int.yes k A0 c0 l0 w hr0 hc0 hl
 ·cases h
def midS (l0 : List Int) (k : Nat) : List Int := (List.range l0.length).map fun j => if j < k then ((rootN l0 j : Nat) : Int) else l0.getD j 0
theorem midS_length (l0 : List Int) (k : Nat) : (midS l0 k).length = l0.length := by simp [midS]
theorem midS_at (l0 : List Int) (k j : Nat) (hj : j < l0.length) : (midS l0 k).getD j 0 = if j < k then ((rootN l0 j : Nat) : Int) else l0.getD j 0 := by
 simp [midS, List.getD_eq_getElem?_getD, List.getElem?_map, List.getElem?_range hj]
theorem midS_zero (l0 : List Int) : midS l0 0 = l0 := by
 apply List.ext_getElem
 ·simp [midS]
 ·intro i h1 h2
  simp [midS, List.getD_eq_getElem?_getD, List.getElem?_eq_getElem h2]
theorem midS_all (l0 : List Int) (hm : mayB l0 = true) : midS l0 l0.length = rootsS l0 := by
 unfold midS rootsS
 rw [if_pos hm]
 apply List.map_congr_left
 intro j hj
 rw [if_pos (List.mem_range.1 hj)]
theorem midS_succ (l0 : List Int) (k : Nat) (hk : k < l0.length) : (midS l0 k).set k ((rootN l0 k : Nat) : Int) = midS l0 (k + 1) := by
 apply List.ext_getElem
 ·simp [midS]
 ·intro i h1 h2
  have hi : i < l0.length := by simpa [midS] using h2
  rw [List.getElem_set]
  split
  ·rename_i h; subst h; simp [midS]
  ·rename_i h
   simp only [midS, List.getElem_map, List.getElem_range]
   by_cases h3 : i < k
   ·rw [if_pos h3, if_pos (by omega)]
   ·rw [if_neg h3, if_neg (by omega)]
def sets_Roots.f (_ : Nat) (l0 : List Int) : Option (List Int) := some (rootsS l0)
set_option maxHeartbeats 4000000 in
set_option maxRecDepth 100000 in
theorem roots_no (A0 : Option Addr) (c0 : Nat) (l0 : List Int) (w : World) (hr0 : Kd.C (Kd.int .i64) w A0 l0.length l0) (hc0 : l0.length ≤ c0) (hm : mayB l0 = false) :
  Calls Try.prog 33 #[.slice A0 l0.length c0] w fun e w' => ∃ v0_ : Value, e = .returned (v0_) ∧ Kd.R (Kd.int .i64) 3 w' w.heap.size (fun _ => True) v0_ [] ∧ Below w.heap.size w w' := by
 have HR0 := Aside0.mk hr0
 have HC0 := Aside0.mk hc0
 have HM := Aside0.mk hm
 clear hr0 hc0 hm
 go_enter Try.func33, Try.ntmps33
 go_wp2_with (go_at_call 25; have mc := may_calls A0 c0 l0 w HR0.out HC0.out; rw [HM.out] at mc; refine mc.mono ?_; rintro e w' ⟨rfl, hd⟩; clear mc)
 go_ret
 exact ⟨_, rfl, Kd.R_nil _ _ _ _ _, hd.below⟩
set_option maxHeartbeats 8000000 in
set_option maxRecDepth 100000 in
theorem roots_yes (A0 : Option Addr) (c0 : Nat) (l0 : List Int) (w : World) (hr0 : Kd.C (Kd.int .i64) w A0 l0.length l0) (hc0 : l0.length ≤ c0) (hm : mayB l0 = true) :
  Calls Try.prog 33 #[.slice A0 l0.length c0] w fun e w' => ∃ v0_ : Value, e = .returned (v0_) ∧ Kd.R (Kd.int .i64) 3 w' w.heap.size (fun _ => True) v0_ (rootsS l0) ∧ Below w.heap.size w w' := by
 have hmax := mayB_len hm
 have HR0 := Aside0.mk hr0
 have HC0 := Aside0.mk hc0
 have HM := Aside0.mk hm
 have HF := Aside0.mk (show slices_Clone_int_int.f 0 l0 = some l0 from by unfold slices_Clone_int_int.f limI; rw [if_pos (by rw [decide_eq_true_eq]; omega)])
 clear hr0 hc0 hm
 go_enter Try.func33, Try.ntmps33
 go_wp2_with (first
  | (go_at_call 25; have mc := may_calls A0 c0 l0 w HR0.out HC0.out; rw [HM.out] at mc; refine mc.mono ?_; rintro e w1 ⟨rfl, hd⟩; clear mc; have HD := Aside0.mk hd; clear hd)
  | (go_at_call 72; refine (slices_Clone_int_int.calls 0 A0 c0 l0 l0 _ (Kd.C_below HR0.out HD.out.below) HC0.out HF.out).mono ?_; rintro e w2 ⟨v2, rfl, ho2, hb2⟩; have HO2 := Aside0.mk (Kd.R_lower ho2 HD.out.below.size); have HB2 := Aside0.mk (HD.out.below.trans (hb2.mono HD.out.below.size)); clear ho2 hb2; obtain ⟨A2, c2, e2⟩ := Kd.R_slice HO2.out; subst e2))
 go_loopw [13] (fun i wr => ∃ k : Nat, k ≤ l0.length ∧ i = .int .i64 k ∧ Aside0 (Kd.R (Kd.int .i64) 3 wr w.heap.size (fun _ => True) (.slice A2 l0.length c2) (midS l0 k)) ∧ Aside0 (Below w.heap.size w wr)) (fun i _ => l0.length - (intOf i).toNat)
 case atStart => exact ⟨0, Nat.zero_le _, rfl, ⟨by rw [midS_zero]; exact HO2.out⟩, HB2⟩
 case round =>
  obtain ⟨k, hk, rfl, HO, HB⟩ := hrel
  by_cases hlt : k < l0.length
  ·obtain ⟨g, c3, e3, hgb, hgl, _⟩ := Kd.R_form HO.out (by rw [midS_length]; omega)
   have e4 : A2 = some ⟨g, 0, none⟩ := by injection e3
   subst e4
   clear e3
   have hb := mayB_at HM.out k hlt
   have hst := rootN_step l0 HM.out k hlt
   obtain ⟨q, hq⟩ := Int.eq_ofNat_of_zero_le hb.1
   have hmid := midS_at l0 k k hlt
   rw [if_neg (by omega), hq] at hmid
   rw [hq] at hb hst
   have hq2 : (midS l0 k).getD q 0 = ((rootN l0 k : Nat) : Int) := by
    rw [midS_at l0 k q (by omega)]
    by_cases hqk : q < k
    ·rw [if_pos hqk, hst, if_neg (by omega), Int.toNat_natCast]
    ·obtain rfl : q = k := by omega
     rw [if_neg (by omega), hq, hst, if_pos rfl]
   have hc1 := Kd.R_celln (0 : Int) HO.out (k : Int) (by omega) (by omega)
   have hc2 := Kd.R_celln (0 : Int) HO.out (q : Int) (by omega) (by omega)
   have hql : q < l0.length := by omega
   have hp := Kd.R_putg HO.out (k : Int) ((rootN l0 k : Nat) : Int)
   rw [Int.toNat_natCast, midS_succ l0 k hlt] at hp
   simp only [rdOf, Int.toNat_natCast, hmid, hq2] at hc1 hc2
   obtain ⟨hc1, hf1⟩ := hc1
   obtain ⟨hc2, _⟩ := hc2
   have HP := Aside0.mk hp
   have HS := Aside0.mk (show Below w.heap.size w (wr.setCell ⟨g, k, none⟩ (.int .i64 ((rootN l0 k : Nat) : Int))) from below_set HB.out hgb)
   clear hq hst hmid hq2 hp
   go_wp2
   go_roundw
   case rel => exact ⟨k + 1, by omega, by go_num, ⟨HP.out.1⟩, HS⟩
   case measure => simp [intOf]; omega
  ·obtain rfl : k = l0.length := by omega
   go_wp2
   go_ret
   exact ⟨_, rfl, by rw [← midS_all l0 HM.out]; exact HO.out, HB.out⟩
theorem sets_Roots.calls (k : Nat) (A0 : Option Addr) (c0 : Nat) (l0 : List Int) (r : List Int) (w : World) (hr0 : Kd.C (Kd.int .i64) w A0 l0.length l0) (hc0 : l0.length ≤ c0) (h : sets_Roots.f k l0 = some r) :
  Calls Try.prog 33 #[.slice A0 l0.length c0] w fun e w' => ∃ v0_ : Value, e = .returned (v0_) ∧ Kd.R (Kd.int .i64) 3 w' w.heap.size (fun _ => True) v0_ r ∧ Below w.heap.size w w' := by
 obtain rfl := Option.some.inj h
 cases hm : mayB l0 with
 | true => exact roots_yes A0 c0 l0 w hr0 hc0 hm
 | false =>
  unfold rootsS
  rw [if_neg (by rw [hm]; decide)]
  exact roots_no A0 c0 l0 w hr0 hc0 hm
def midF (f : Int → Int) (xs : List Int) (k : Nat) : List Int := (List.range xs.length).map fun j => if j < k then f (xs.getD j 0) else xs.getD j 0
theorem midF_length (f : Int → Int) (xs : List Int) (k : Nat) : (midF f xs k).length = xs.length := by simp [midF]
theorem midF_at (f : Int → Int) (xs : List Int) (k j : Nat) (hj : j < xs.length) : (midF f xs k).getD j 0 = if j < k then f (xs.getD j 0) else xs.getD j 0 := by
 simp [midF, List.getD_eq_getElem?_getD, List.getElem?_map, List.getElem?_range hj]
theorem midF_zero (f : Int → Int) (xs : List Int) : midF f xs 0 = xs := by
 apply List.ext_getElem
 ·simp [midF]
 ·intro i h1 h2
  simp [midF, List.getD_eq_getElem?_getD, List.getElem?_eq_getElem h2]
theorem midF_all (f : Int → Int) (xs : List Int) : midF f xs xs.length = xs.map f := by
 apply List.ext_getElem
 ·simp [midF]
 ·intro i h1 h2
  have hi : i < xs.length := by simpa [midF] using h1
  simp [midF, List.getD_eq_getElem?_getD, List.getElem?_eq_getElem hi, hi]
theorem midF_succ (f : Int → Int) (xs : List Int) (k : Nat) (hk : k < xs.length) : (midF f xs k).set k (f (xs.getD k 0)) = midF f xs (k + 1) := by
 apply List.ext_getElem
 ·simp [midF]
 ·intro i h1 h2
  rw [List.getElem_set]
  split
  ·rename_i h; subst h; simp [midF]
  ·rename_i h
   simp only [midF, List.getElem_map, List.getElem_range]
   by_cases h3 : i < k
   ·rw [if_pos h3, if_pos (by omega)]
   ·rw [if_neg h3, if_neg (by omega)]
theorem midF_skip (f : Int → Int) (xs : List Int) (k : Nat) (hk : k < xs.length) (h : f (xs.getD k 0) = xs.getD k 0) : midF f xs k = midF f xs (k + 1) := by
 unfold midF
 apply List.map_congr_left
 intro j hj
 by_cases h3 : j < k
 ·rw [if_pos h3, if_pos (by omega)]
 ·by_cases h4 : j = k
  ·subst h4; rw [if_neg h3, if_pos (by omega), h]
  ·rw [if_neg h3, if_neg (by omega)]
theorem mx_max (a b : Int) : mx a b = max a b := by unfold mx; split <;> omega
theorem mn_min (a b : Int) : mn a b = min a b := by unfold mn; split <;> omega
theorem rootsS_length (p : List Int) (hm : mayB p = true) : (rootsS p).length = p.length := by unfold rootsS; rw [if_pos hm]; simp
theorem findS_nonneg {p : List Int} {a : Int} (h : findS p a ≠ -1) : 0 ≤ findS p a ∧ mayB p = true := by
 unfold findS at h ⊢
 split at h
 ·rename_i hh
  rw [if_pos hh]
  simp only [Bool.and_eq_true] at hh
  exact ⟨by unfold rootZ; omega, hh.1⟩
 ·exact absurd rfl h
def sets_Join.f (_ : Nat) (l0 : List Int) (a1 : Int) (a2 : Int) : Option (List Int × Bool) := if (joinS l0 a1 a2).2 = true then some (joinS l0 a1 a2) else if limI l0 = true then some (l0, false) else none
set_option maxHeartbeats 8000000 in
set_option maxRecDepth 100000 in
theorem join_no (A0 : Option Addr) (c0 : Nat) (l0 : List Int) (a1 a2 : Int) (w : World) (hr0 : Kd.C (Kd.int .i64) w A0 l0.length l0) (hc0 : l0.length ≤ c0) (hl : limI l0 = true) (hno : findS l0 a1 = -1 ∨ (findS l0 a1 ≠ -1 ∧ findS l0 a2 = -1)) :
  Calls Try.prog 24 #[.slice A0 l0.length c0, .int .i64 a1, .int .i64 a2] w fun e w' => ∃ v0_ : Value, e = .returned (.tuple #[v0_, .bool false]) ∧ Kd.R (Kd.int .i64) 3 w' w.heap.size (fun _ => True) v0_ l0 ∧ Below w.heap.size w w' := by
 have HR0 := Aside0.mk hr0
 have HC0 := Aside0.mk hc0
 have HL := Aside0.mk (show slices_Clone_int_int.f 0 l0 = some l0 from by unfold slices_Clone_int_int.f; rw [if_pos hl])
 have HB := Aside0.mk (Below.refl w.heap.size w)
 obtain ⟨φ, hφ⟩ : ∃ φ : Int → Int, φ = findS l0 := ⟨_, rfl⟩
 rw [← hφ] at hno
 have HF := Aside0.mk (fun a : Int => show sets_Find.f 0 l0 a = some (φ a) from by rw [hφ]; rfl)
 clear hr0 hc0 hl hφ
 rcases hno with h | ⟨h1, h⟩
 ·have e1 : (φ a1 == (-1 : Int)) = true := by rw [h]; rfl
  clear h
  go_enter Try.func24, Try.ntmps24
  go_wp2_with (first | (go_at_call 26; refine (sets_Find.calls 0 A0 c0 l0 _ _ _ (Kd.C_below HR0.out HB.out) HC0.out (HF.out _)).mono ?_; rintro e w1 ⟨rfl, hd⟩; have n_ := Aside0.mk (HB.out.trans (hd.below.mono HB.out.size)); clear HB hd; have HB := n_; clear n_) | (go_at_call 72; refine (slices_Clone_int_int.calls 0 A0 c0 l0 l0 _ (Kd.C_below HR0.out HB.out) HC0.out HL.out).mono ?_; rintro e w3 ⟨v3, rfl, ho3, hb3⟩; have HO3 := Aside0.mk (Kd.R_lower ho3 HB.out.size); have HB3 := Aside0.mk (HB.out.trans (hb3.mono HB.out.size)); clear ho3 hb3))
  go_ret2
  exact ⟨_, rfl, HO3.out, HB3.out⟩
 ·have e1 : (φ a1 == (-1 : Int)) = false := by rw [beq_eq_false_iff_ne]; exact h1
  have e2 : (φ a2 == (-1 : Int)) = true := by rw [h]; rfl
  clear h h1
  go_enter Try.func24, Try.ntmps24
  go_wp2_with (first | (go_at_call 26; refine (sets_Find.calls 0 A0 c0 l0 _ _ _ (Kd.C_below HR0.out HB.out) HC0.out (HF.out _)).mono ?_; rintro e w1 ⟨rfl, hd⟩; have n_ := Aside0.mk (HB.out.trans (hd.below.mono HB.out.size)); clear HB hd; have HB := n_; clear n_) | (go_at_call 72; refine (slices_Clone_int_int.calls 0 A0 c0 l0 l0 _ (Kd.C_below HR0.out HB.out) HC0.out HL.out).mono ?_; rintro e w3 ⟨v3, rfl, ho3, hb3⟩; have HO3 := Aside0.mk (Kd.R_lower ho3 HB.out.size); have HB3 := Aside0.mk (HB.out.trans (hb3.mono HB.out.size)); clear ho3 hb3))
  go_ret2
  exact ⟨_, rfl, HO3.out, HB3.out⟩
set_option maxHeartbeats 8000000 in
set_option maxRecDepth 100000 in
theorem join_yes (A0 : Option Addr) (c0 : Nat) (l0 : List Int) (a1 a2 : Int) (w : World) (hr0 : Kd.C (Kd.int .i64) w A0 l0.length l0) (hc0 : l0.length ≤ c0) (h1 : findS l0 a1 ≠ -1) (h2 : findS l0 a2 ≠ -1) :
  Calls Try.prog 24 #[.slice A0 l0.length c0, .int .i64 a1, .int .i64 a2] w fun e w' => ∃ v0_ : Value, e = .returned (.tuple #[v0_, .bool true]) ∧ Kd.R (Kd.int .i64) 3 w' w.heap.size (fun _ => True) v0_ ((rootsS l0).map (fun r => if r = max (findS l0 a1) (findS l0 a2) then min (findS l0 a1) (findS l0 a2) else r)) ∧ Below w.heap.size w w' := by
 have hm := (findS_nonneg h1).2
 have hlen := rootsS_length l0 hm
 have hmax := mayB_len hm
 have HR0 := Aside0.mk hr0
 have HC0 := Aside0.mk hc0
 have HB := Aside0.mk (Below.refl w.heap.size w)
 obtain ⟨φ, hφ⟩ : ∃ φ : Int → Int, φ = findS l0 := ⟨_, rfl⟩
 rw [← hφ] at h1 h2 ⊢
 have HF := Aside0.mk (fun a : Int => show sets_Find.f 0 l0 a = some (φ a) from by rw [hφ]; rfl)
 obtain ⟨R0, hR0⟩ : ∃ R0, R0 = rootsS l0 := ⟨_, rfl⟩
 rw [← hR0] at hlen ⊢
 have HRT := Aside0.mk (show sets_Roots.f 0 l0 = some R0 from by rw [hR0]; rfl)
 obtain ⟨f, hf⟩ : ∃ f : Int → Int, f = fun r => if r = max (φ a1) (φ a2) then min (φ a1) (φ a2) else r := ⟨_, rfl⟩
 rw [← hf]
 have HFF := Aside0.mk hf
 have hR0l : R0.length ≤ 400 := by omega
 have e1 : (φ a1 == (-1 : Int)) = false := by rw [beq_eq_false_iff_ne]; exact h1
 have e2 : (φ a2 == (-1 : Int)) = false := by rw [beq_eq_false_iff_ne]; exact h2
 clear hr0 hc0 hφ h1 h2 hm hR0 hf hlen
 go_enter Try.func24, Try.ntmps24
 go_wp2_with (first | (go_at_call 26; refine (sets_Find.calls 0 A0 c0 l0 _ _ _ (Kd.C_below HR0.out HB.out) HC0.out (HF.out _)).mono ?_; rintro e w1 ⟨rfl, hd⟩; have n_ := Aside0.mk (HB.out.trans (hd.below.mono HB.out.size)); clear HB hd; have HB := n_; clear n_) | (go_at_call 33; refine (sets_Roots.calls 0 A0 c0 l0 R0 _ (Kd.C_below HR0.out HB.out) HC0.out HRT.out).mono ?_; rintro e w3 ⟨v3, rfl, ho3, hb3⟩; have HO3 := Aside0.mk (Kd.R_lower ho3 HB.out.size); have HB3 := Aside0.mk (HB.out.trans (hb3.mono HB.out.size)); clear ho3 hb3; obtain ⟨A2, c2, e3⟩ := Kd.R_slice HO3.out; subst e3))
 go_loopw [31] (fun i wr => ∃ k : Nat, k ≤ R0.length ∧ i = .int .i64 k ∧ Aside0 (Kd.R (Kd.int .i64) 3 wr w.heap.size (fun _ => True) (.slice A2 R0.length c2) (midF f R0 k)) ∧ Aside0 (Below w.heap.size w wr)) (fun i _ => R0.length - (intOf i).toNat)
 case atStart => exact ⟨0, Nat.zero_le _, rfl, ⟨by rw [midF_zero]; exact HO3.out⟩, HB3⟩
 case round =>
  obtain ⟨k, hk, rfl, HO, HBr⟩ := hrel
  by_cases hlt : k < R0.length
  ·obtain ⟨g, c3, e3, hgb, hgl, _⟩ := Kd.R_form HO.out (by rw [midF_length]; omega)
   have e4 : A2 = some ⟨g, 0, none⟩ := by injection e3
   subst e4
   clear e3
   have hc1 := Kd.R_celln (0 : Int) HO.out (k : Int) (by omega) (by omega)
   have hmid := midF_at f R0 k k hlt
   rw [if_neg (by omega)] at hmid
   obtain ⟨r, hr⟩ : ∃ r, r = R0.getD k 0 := ⟨_, rfl⟩
   rw [← hr] at hmid
   simp only [rdOf, Int.toNat_natCast, hmid] at hc1
   obtain ⟨hc1, hf1⟩ := hc1
   by_cases he : r = (if φ a1 < φ a2 then φ a2 else φ a1)
   ·have eb : (r == (if φ a1 < φ a2 then φ a2 else φ a1)) = true := by rw [beq_iff_eq]; exact he
    have hfr : f (R0.getD k 0) = (if φ a2 < φ a1 then φ a2 else φ a1) := by rw [← hr, HFF.out]; simp only; rw [if_pos (by rw [he]; exact mx_max _ _)]; exact (mn_min _ _).symm
    have hp := Kd.R_putg HO.out (k : Int) ((if φ a2 < φ a1 then φ a2 else φ a1))
    rw [Int.toNat_natCast, ← hfr, midF_succ f R0 k hlt, hfr] at hp
    have HP := Aside0.mk hp
    have HS := Aside0.mk (show Below w.heap.size w (wr.setCell ⟨g, k, none⟩ (.int .i64 ((if φ a2 < φ a1 then φ a2 else φ a1)))) from below_set HBr.out hgb)
    clear hr hmid he hfr hp
    go_wp2
    go_roundw
    case rel => exact ⟨k + 1, by omega, by go_num, ⟨HP.out.1⟩, HS⟩
    case measure => simp [intOf]; omega
   ·have eb : (r == (if φ a1 < φ a2 then φ a2 else φ a1)) = false := by rw [beq_eq_false_iff_ne]; exact he
    have hfr : f (R0.getD k 0) = R0.getD k 0 := by rw [← hr, HFF.out]; simp only; rw [if_neg (fun h_ => he (h_.trans (mx_max _ _).symm))]
    have HSK := Aside0.mk (midF_skip f R0 k hlt hfr)
    clear hr hmid he hfr
    go_wp2
    go_roundw
    case rel => exact ⟨k + 1, by omega, by go_num, ⟨by rw [← HSK.out]; exact HO.out⟩, HBr⟩
    case measure => simp [intOf]; omega
  ·obtain rfl : k = R0.length := by omega
   go_wp2
   go_ret2
   exact ⟨_, rfl, by rw [← midF_all f R0]; exact HO.out, HBr.out⟩
theorem sets_Join.calls (k : Nat) (A0 : Option Addr) (c0 : Nat) (l0 : List Int) (a1 : Int) (a2 : Int) (r1 : List Int) (r2 : Bool) (w : World) (hr0 : Kd.C (Kd.int .i64) w A0 l0.length l0) (hc0 : l0.length ≤ c0) (h : sets_Join.f k l0 a1 a2 = some (r1, r2)) :
  Calls Try.prog 24 #[.slice A0 l0.length c0, .int .i64 a1, .int .i64 a2] w fun e w' => ∃ v0_ : Value, e = .returned (.tuple #[v0_, .bool r2]) ∧ Kd.R (Kd.int .i64) 3 w' w.heap.size (fun _ => True) v0_ r1 ∧ Below w.heap.size w w' := by
 unfold sets_Join.f joinS at h
 by_cases h1 : findS l0 a1 = -1
 ·rw [if_pos h1, if_neg (by simp)] at h
  split at h
  ·rename_i hl
   have h := Option.some.inj h
   obtain ⟨rfl, rfl⟩ := Prod.mk.inj h
   exact join_no A0 c0 l0 a1 a2 w hr0 hc0 hl (.inl h1)
  ·cases h
 ·rw [if_neg h1] at h
  by_cases h2 : findS l0 a2 = -1
  ·rw [if_pos h2, if_neg (by simp)] at h
   split at h
   ·rename_i hl
    have h := Option.some.inj h
    obtain ⟨rfl, rfl⟩ := Prod.mk.inj h
    exact join_no A0 c0 l0 a1 a2 w hr0 hc0 hl (.inr ⟨h1, h2⟩)
   ·cases h
  ·rw [if_neg h2, if_pos rfl] at h
   have h := Option.some.inj h
   obtain ⟨rfl, rfl⟩ := Prod.mk.inj h
   exact join_yes A0 c0 l0 a1 a2 w hr0 hc0 h1 h2
def roadbookref02_Ints.l0 : Nat → List Int → List Int → Int → Option (Bool)
 | 0, _, _, _ => none
 | k + 1, x0, x1, x5 => if x5 < (x0.length : Int) then (if 0 ≤ x5 then (if x5 < (x1.length : Int) then (if (rd x0 x5) = (rd x1 x5) then (roadbookref02_Ints.l0 k x0 x1 (wrap64 (x5 + 1))) else (some false)) else (none)) else (none)) else (some true)
def roadbookref02_Ints.f (k : Nat) (l0 : List Int) (l1 : List Int) : Option (Bool) := if (l0.length : Int) = (l1.length : Int) then (roadbookref02_Ints.l0 k l0 l1 0) else (some false)
set_option maxHeartbeats 8000000 in
set_option maxRecDepth 100000 in
theorem roadbookref02_Ints.calls (k : Nat) (A0 : Option Addr) (c0 : Nat) (l0 : List Int) (A1 : Option Addr) (c1 : Nat) (l1 : List Int) (r : Bool) (w : World) (hr0 : Kd.C (Kd.int .i64) w A0 l0.length l0) (hc0 : l0.length ≤ c0) (hr1 : Kd.C (Kd.int .i64) w A1 l1.length l1) (hc1 : l1.length ≤ c1) (h : roadbookref02_Ints.f k l0 l1 = some r) :
  Calls Try.prog 27 #[.slice A0 l0.length c0, .slice A1 l1.length c1] w fun e w' => e = .returned (.bool r) ∧ Drawn0 w w' := by
 have HR0 := Aside0.mk hr0
 have HC0 := Aside0.mk hc0
 clear hr0 hc0
 have HR1 := Aside0.mk hr1
 have HC1 := Aside0.mk hc1
 clear hr1 hc1
 have H : (if (l0.length : Int) = (l1.length : Int) then (roadbookref02_Ints.l0 k l0 l1 0) else (some false)) = some r := h
 clear h
 by_cases c3 : (l0.length : Int) = (l1.length : Int)
 ·rw [if_pos c3] at H
  have c3b0 : ((l0.length : Int) == (l1.length : Int)) = true := beq_iff_eq.mpr c3
  have c3b1 : ((l0.length : Int) != (l1.length : Int)) = false := bne_eq_false_iff_eq.mpr c3
  have c3b2 : (l0.length == l1.length) = true := by (simp at c3 ⊢; omega)
  clear c3
  have H' := Aside0.mk H
  clear H
  go_enter Try.func27, Try.ntmps27
  go_wp2
  repeat (go_quiet (fail); try go_wp2)
  go_loopg [5] k (fun kq v5 w' => ∃ (x5_1 : Int), v5 = .int .i64 x5_1 ∧ Aside0 (roadbookref02_Ints.l0 kq l0 l1 x5_1 = some r) ∧ Aside0 (kq ≤ k) ∧ Drawn0 w w')
  case atStart => exact ⟨(0), (by rfl), H', ⟨Nat.le_refl _⟩, by repeat (exact Drawn0.refl _)⟩
  case round =>
   clear H'
   try clear c3b0
   try clear c3b1
   try clear c3b2
   obtain ⟨x5_1, rfl, HA, HK1, ⟨m1, rfl⟩⟩ := hrel
   cases gk with
   | zero => exact absurd HA.out (by simp [roadbookref02_Ints.l0])
   | succ k1 =>
    have H := HA.out
    clear HA
    simp only [roadbookref02_Ints.l0] at H
    by_cases c4 : x5_1 < (l0.length : Int)
    ·rw [if_pos c4] at H
     have c4b0 : decide (x5_1 < (l0.length : Int)) = true := decide_eq_true c4
     clear c4
     by_cases c5 : 0 ≤ x5_1
     ·rw [if_pos c5] at H
      have c5b0 : decide (0 ≤ x5_1) = true := decide_eq_true c5
      clear c5
      by_cases c6 : x5_1 < (l1.length : Int)
      ·rw [if_pos c6] at H
       have c6b0 : decide (x5_1 < (l1.length : Int)) = true := decide_eq_true c6
       clear c6
       by_cases c7 : (rd l0 x5_1) = (rd l1 x5_1)
       ·rw [if_pos c7] at H
        have c7b0 : ((rd l0 x5_1) == (rd l1 x5_1)) = true := beq_iff_eq.mpr c7
        have c7b1 : ((rd l0 x5_1) != (rd l1 x5_1)) = false := bne_eq_false_iff_eq.mpr c7
        clear c7
        have H' := Aside0.mk H
        clear H
        have p11 : 0 ≤ (x5_1 : Int) := of_decide_eq_true (by (with_reducible assumption))
        have q11 : x5_1 < (l0.length : Int) := of_decide_eq_true (by (with_reducible assumption))
        obtain ⟨ad11, e11, hx11_0⟩ := Kd.at_int HR0.out x5_1 p11 q11
        cases e11
        replace p11 := eq_true p11
        replace q11 := eq_true q11
        have p12 : 0 ≤ (x5_1 : Int) := of_decide_eq_true (by (with_reducible assumption))
        have q12 : x5_1 < (l1.length : Int) := of_decide_eq_true (by (with_reducible assumption))
        obtain ⟨ad12, e12, hx12_0⟩ := Kd.at_int HR1.out x5_1 p12 q12
        cases e12
        replace p12 := eq_true p12
        replace q12 := eq_true q12
        go_wp2
        repeat (go_quiet (fail); try go_wp2)
        go_roundg k1
        case measure => have := HK1.out; omega
        case rel => exact ⟨(wrap64 (x5_1 + 1)), (by rfl), H', ⟨by have := HK1.out; omega⟩, by repeat (first | exact Drawn0.refl _ | apply Drawn0.step)⟩
       ·rw [if_neg c7] at H
        have c7b0 : ((rd l0 x5_1) == (rd l1 x5_1)) = false := beq_eq_false_iff_ne.mpr c7
        have c7b1 : ((rd l0 x5_1) != (rd l1 x5_1)) = true := bne_iff_ne.mpr c7
        obtain rfl := Option.some.inj H
        have p11 : 0 ≤ (x5_1 : Int) := of_decide_eq_true (by (with_reducible assumption))
        have q11 : x5_1 < (l0.length : Int) := of_decide_eq_true (by (with_reducible assumption))
        obtain ⟨ad11, e11, hx11_0⟩ := Kd.at_int HR0.out x5_1 p11 q11
        cases e11
        replace p11 := eq_true p11
        replace q11 := eq_true q11
        have p12 : 0 ≤ (x5_1 : Int) := of_decide_eq_true (by (with_reducible assumption))
        have q12 : x5_1 < (l1.length : Int) := of_decide_eq_true (by (with_reducible assumption))
        obtain ⟨ad12, e12, hx12_0⟩ := Kd.at_int HR1.out x5_1 p12 q12
        cases e12
        replace p12 := eq_true p12
        replace q12 := eq_true q12
        go_wp2
        repeat (go_quiet (fail); try go_wp2)
        go_ret
        exact ⟨by rfl, by repeat (first | exact Drawn0.refl _ | apply Drawn0.step)⟩
      ·rw [if_neg c6] at H
       exact absurd H (by simp)
     ·rw [if_neg c5] at H
      exact absurd H (by simp)
    ·rw [if_neg c4] at H
     have c4b0 : decide (x5_1 < (l0.length : Int)) = false := decide_eq_false c4
     clear c4
     obtain rfl := Option.some.inj H
     go_wp2
     repeat (go_quiet (fail); try go_wp2)
     go_ret
     exact ⟨by rfl, by repeat (first | exact Drawn0.refl _ | apply Drawn0.step)⟩
 ·rw [if_neg c3] at H
  have c3b0 : ((l0.length : Int) == (l1.length : Int)) = false := beq_eq_false_iff_ne.mpr c3
  have c3b1 : ((l0.length : Int) != (l1.length : Int)) = true := bne_iff_ne.mpr c3
  have c3b2 : (l0.length == l1.length) = false := by (simp at c3 ⊢; omega)
  obtain rfl := Option.some.inj H
  go_enter Try.func27, Try.ntmps27
  go_wp2
  repeat (go_quiet (fail); try go_wp2)
  go_ret
  exact ⟨by rfl, by repeat (exact Drawn0.refl _)⟩
def api_Node_94.f (_ : Nat) (l0 : List S48) : Option (List S48) := if limN l0 = true then some l0 else none
set_option maxHeartbeats 4000000 in
set_option maxRecDepth 100000 in
theorem api_Node_94.yes (k : Nat) (A0 : Option Addr) (c0 : Nat) (l0 : List S48) (w : World) (hr0 : Kd.C k48 w A0 l0.length l0) (hc0 : l0.length ≤ c0) (hl : l0.length * 32 ≤ 140737488355328) :
  Calls Try.prog 94 #[.slice A0 l0.length c0] w fun e w' => ∃ v0_ : Value, e = .returned (v0_) ∧ Kd.R k48 48 w' w.heap.size (fun _ => True) v0_ l0 ∧ Below w.heap.size w w' := by
 have hn := fun (W : World) (a : Option Addr) (n c : Nat) => Lib.run_eql_slice_nil (P := Try.prog) W 36 48 a n c 0 0 Try.underlying36
 rcases A0 with _ | ad
 ·have h0 : l0 = [] := by
   apply List.eq_nil_of_length_eq_zero
   rcases Nat.eq_zero_or_pos l0.length with h | h
   ·exact h
   ·obtain ⟨ad, ha, _⟩ := hr0.2.2 h
    cases ha
  subst h0
  clear hr0 hc0 hl
  go_enter Try.func94, Try.ntmps94
  go_wp2
  go_ret
  exact ⟨_, rfl, Kd.R_nil _ _ _ _ _, Below.refl _ _⟩
 ·have HR0 := Aside0.mk hr0
  have HL := Aside0.mk hl
  clear hr0 hc0 hl
  go_enter Try.func94, Try.ntmps94
  go_wp2_with (first
   | ((with_reducible refine gate_dst (N := 5) rfl ?_); refine Kd.R_lit k48 w.heap.size 48 ?hg (N := 5) ?hd (xs := ([] : List S48)) (inner := []) (ok := fun _ => True) (okp := fun _ => True) ?hr (Reps.none _ _) (fun _ h => h) trivial (Below.refl _ _) (Nat.le_refl _) (by simp) ?_; (case hd => rfl); (case hg => rfl); (case hr => first | (go_simp; done) ); intro v1 w1 ho1 hb1 hg1 hat1; have HO1 := Aside0.mk ho1; have HB1 := Aside0.mk hb1; clear ho1 hb1 hg1 hat1)
   | ((with_reducible refine gate_builtin (b := .append) (xs := #[.tmp 5, .tmp 6]) rfl ?_); refine Kd.R_append_rows k48 (w0 := w) w.heap.size rfl (.tmp 5) (.tmp 6) 36 48 (.agg #[(.bool false), (.int .i64 0), (.int .i64 0), (.int .i64 0)]) 32 rfl Try.underlying36 info48 rfl (by decide) (by omega) v1 [] l0 _ _ _ (fun _ => True) (fun _ => False) rfl rfl HO1.out (Kd.C_below HR0.out HB1.out) ?hkm (fun _ h => h.elim) (fun _ _ => trivial) HB1.out HB1.out.size (by simpa using HL.out) ?_; (case hkm => exact fun x cs h => by obtain rfl := k48_open h; exact k48_mkM _ _ _ x); intro v2 w2 ho2 hb2 hg2 hat2; have HO2 := Aside0.mk ho2; have HB2 := Aside0.mk hb2; clear ho2 hb2 hg2 hat2))
  go_ret
  exact ⟨_, rfl, HO2.out, HB2.out⟩
theorem api_Node_94.calls (k : Nat) (A0 : Option Addr) (c0 : Nat) (l0 : List S48) (r : List S48) (w : World) (hr0 : Kd.C k48 w A0 l0.length l0) (hc0 : l0.length ≤ c0) (h : api_Node_94.f k l0 = some r) :
  Calls Try.prog 94 #[.slice A0 l0.length c0] w fun e w' => ∃ v0_ : Value, e = .returned (v0_) ∧ Kd.R k48 48 w' w.heap.size (fun _ => True) v0_ r ∧ Below w.heap.size w w' := by
 unfold api_Node_94.f at h
 split at h
 ·rename_i hl
  obtain rfl := Option.some.inj h
  simp only [limN, decide_eq_true_eq] at hl
  exact api_Node_94.yes k A0 c0 l0 w hr0 hc0 hl
 ·cases h
def api_Event_92.f (_ : Nat) (l0 : List S68) : Option (List S68) := if limE l0 = true then some l0 else none
set_option maxHeartbeats 4000000 in
set_option maxRecDepth 100000 in
theorem api_Event_92.yes (k : Nat) (A0 : Option Addr) (c0 : Nat) (l0 : List S68) (w : World) (hr0 : Kd.C k68 w A0 l0.length l0) (hc0 : l0.length ≤ c0) (hl : l0.length * 24 ≤ 140737488355328) :
  Calls Try.prog 92 #[.slice A0 l0.length c0] w fun e w' => ∃ v0_ : Value, e = .returned (v0_) ∧ Kd.R k68 68 w' w.heap.size (fun _ => True) v0_ l0 ∧ Below w.heap.size w w' := by
 have hn := fun (W : World) (a : Option Addr) (n c : Nat) => Lib.run_eql_slice_nil (P := Try.prog) W 63 68 a n c 0 0 Try.underlying63
 rcases A0 with _ | ad
 ·have h0 : l0 = [] := by
   apply List.eq_nil_of_length_eq_zero
   rcases Nat.eq_zero_or_pos l0.length with h | h
   ·exact h
   ·obtain ⟨ad, ha, _⟩ := hr0.2.2 h
    cases ha
  subst h0
  clear hr0 hc0 hl
  go_enter Try.func92, Try.ntmps92
  go_wp2
  go_ret
  exact ⟨_, rfl, Kd.R_nil _ _ _ _ _, Below.refl _ _⟩
 ·have HR0 := Aside0.mk hr0
  have HL := Aside0.mk hl
  clear hr0 hc0 hl
  go_enter Try.func92, Try.ntmps92
  go_wp2_with (first
   | ((with_reducible refine gate_dst (N := 5) rfl ?_); refine Kd.R_lit k68 w.heap.size 68 ?hg (N := 5) ?hd (xs := ([] : List S68)) (inner := []) (ok := fun _ => True) (okp := fun _ => True) ?hr (Reps.none _ _) (fun _ h => h) trivial (Below.refl _ _) (Nat.le_refl _) (by simp) ?_; (case hd => rfl); (case hg => rfl); (case hr => first | (go_simp; done) ); intro v1 w1 ho1 hb1 hg1 hat1; have HO1 := Aside0.mk ho1; have HB1 := Aside0.mk hb1; clear ho1 hb1 hg1 hat1)
   | ((with_reducible refine gate_builtin (b := .append) (xs := #[.tmp 5, .tmp 6]) rfl ?_); refine Kd.R_append_rows k68 (w0 := w) w.heap.size rfl (.tmp 5) (.tmp 6) 63 68 (.agg #[(.int .i64 0), (.int .i64 0), (.int .i64 0)]) 24 rfl Try.underlying63 info68 rfl (by decide) (by omega) v1 [] l0 _ _ _ (fun _ => True) (fun _ => False) rfl rfl HO1.out (Kd.C_below HR0.out HB1.out) ?hkm (fun _ h => h.elim) (fun _ _ => trivial) HB1.out HB1.out.size (by simpa using HL.out) ?_; (case hkm => exact fun x cs h => by obtain rfl := k68_open h; exact k68_mkM _ _ _ x); intro v2 w2 ho2 hb2 hg2 hat2; have HO2 := Aside0.mk ho2; have HB2 := Aside0.mk hb2; clear ho2 hb2 hg2 hat2))
  go_ret
  exact ⟨_, rfl, HO2.out, HB2.out⟩
theorem api_Event_92.calls (k : Nat) (A0 : Option Addr) (c0 : Nat) (l0 : List S68) (r : List S68) (w : World) (hr0 : Kd.C k68 w A0 l0.length l0) (hc0 : l0.length ≤ c0) (h : api_Event_92.f k l0 = some r) :
  Calls Try.prog 92 #[.slice A0 l0.length c0] w fun e w' => ∃ v0_ : Value, e = .returned (v0_) ∧ Kd.R k68 68 w' w.heap.size (fun _ => True) v0_ r ∧ Below w.heap.size w w' := by
 unfold api_Event_92.f at h
 split at h
 ·rename_i hl
  obtain rfl := Option.some.inj h
  simp only [limE, decide_eq_true_eq] at hl
  exact api_Event_92.yes k A0 c0 l0 w hr0 hc0 hl
 ·cases h
end Go.Proofs.Ytkidnomkfdnciaa.All
namespace Go.Proofs.Ytkidnomkfdnciaa.All
open Go.RowKit Go.Proofs.YtkidnomkfdnciaaW.PrintWords
theorem rootN_le {p : List Int} (hm : mayB p = true) {i : Nat} (hi : i < p.length) : rootN p i ≤ i := upN_le p hm i i hi
theorem rootN_fix {p : List Int} (hm : mayB p = true) : ∀ (i : Nat), i < p.length → p.getD (rootN p i) 0 = ((rootN p i : Nat) : Int) := by
 intro i
 induction i using Nat.strongRecOn with
 | _ i ih =>
  intro hi
  have hb := mayB_at hm i hi
  rw [rootN_step p hm i hi]
  split
  ·assumption
  ·exact ih _ (by omega) (by omega)
theorem rootN_of_fix {p : List Int} (hm : mayB p = true) {i : Nat} (hi : i < p.length) (h : p.getD i 0 = (i : Int)) : rootN p i = i := by
 rw [rootN_step p hm i hi, if_pos h]
theorem rootN_idem {p : List Int} (hm : mayB p = true) {i : Nat} (hi : i < p.length) : rootN p (rootN p i) = rootN p i :=
 rootN_of_fix hm (Nat.lt_of_le_of_lt (rootN_le hm hi) hi) (rootN_fix hm i hi)
def flat (q : List Int) (ρ : Nat → Nat) : Prop := ∀ i, i < q.length → q.getD i 0 = ((ρ i : Nat) : Int) ∧ ρ i ≤ i ∧ ρ (ρ i) = ρ i
theorem flat_may {q : List Int} {ρ : Nat → Nat} (h : flat q ρ) (hl : q.length ≤ 400) : mayB q = true :=
 mayB_of (fun i hi => by have := h i hi; omega) hl
theorem flat_root {q : List Int} {ρ : Nat → Nat} (h : flat q ρ) (hl : q.length ≤ 400) {i : Nat} (hi : i < q.length) : rootN q i = ρ i := by
 have hm := flat_may h hl
 have h1 := h i hi
 rw [rootN_step q hm i hi, h1.1]
 split
 ·omega
 ·rw [Int.toNat_natCast]
  refine rootN_of_fix hm (by omega) ?_
  have h2 := h (ρ i) (by omega)
  rw [h2.1, h1.2.2]
theorem ext_getD {a b : List Int} (hl : a.length = b.length) (h : ∀ i, i < a.length → a.getD i 0 = b.getD i 0) : a = b := by
 apply List.ext_getElem hl
 intro i h1 h2
 have := h i h1
 simpa [List.getD_eq_getElem?_getD, List.getElem?_eq_getElem h1, List.getElem?_eq_getElem h2] using this
theorem rootsS_at {p : List Int} (hm : mayB p = true) {i : Nat} (hi : i < p.length) : (rootsS p).getD i 0 = ((rootN p i : Nat) : Int) := by
 unfold rootsS
 rw [if_pos hm]
 simp [List.getD_eq_getElem?_getD, List.getElem?_map, List.getElem?_range hi]
theorem flat_roots {q : List Int} {ρ : Nat → Nat} (h : flat q ρ) (hl : q.length ≤ 400) : rootsS q = q := by
 have hm := flat_may h hl
 refine ext_getD (rootsS_length q hm) fun i hi => ?_
 rw [rootsS_length q hm] at hi
 rw [rootsS_at hm hi, flat_root h hl hi, (h i hi).1]
theorem findS_in {p : List Int} (hm : mayB p = true) {i : Int} (h0 : 0 ≤ i) (h1 : i < p.length) : findS p i = ((rootN p i.toNat : Nat) : Int) := by
 unfold findS rootZ inB
 rw [if_pos (by simp [hm, h0, h1])]
theorem findS_out {p : List Int} {i : Int} (h : mayB p = false ∨ i < 0 ∨ (p.length : Int) ≤ i) : findS p i = -1 := by
 unfold findS
 rw [if_neg]
 intro hh
 simp only [Bool.and_eq_true, inB, decide_eq_true_eq] at hh
 rcases h with h | h | h
 ·rw [h] at hh; exact Bool.false_ne_true hh.1
 ·omega
 ·omega
theorem findS_cases (p : List Int) (i : Int) : (findS p i = -1 ∧ (mayB p = false ∨ i < 0 ∨ (p.length : Int) ≤ i)) ∨ (mayB p = true ∧ 0 ≤ i ∧ i < p.length ∧ findS p i = ((rootN p i.toNat : Nat) : Int)) := by
 by_cases h : mayB p = true ∧ 0 ≤ i ∧ i < p.length
 ·exact .inr ⟨h.1, h.2.1, h.2.2, findS_in h.1 h.2.1 h.2.2⟩
 ·refine .inl ?_
  have : mayB p = false ∨ i < 0 ∨ (p.length : Int) ≤ i := by
   cases hm : mayB p
   ·exact .inl rfl
   ·right
    rw [hm] at h
    simp only [true_and] at h
    omega
  exact ⟨findS_out this, this⟩
def J (x y r : Nat) : Nat := if r = max x y then min x y else r
structure Joined (p : List Int) (a b : Int) : Prop where
 may : mayB p = true
 a0 : 0 ≤ a
 al : a < p.length
 b0 : 0 ≤ b
 bl : b < p.length
theorem join_cases (p : List Int) (a b : Int) : (joinS p a b = (p, false) ∧ (mayB p = false ∨ findS p a = -1 ∨ findS p b = -1)) ∨
  (Joined p a b ∧ joinS p a b = ((rootsS p).map (fun r => if r = max (findS p a) (findS p b) then min (findS p a) (findS p b) else r), true)) := by
 unfold joinS
 rcases findS_cases p a with ⟨h1, h2⟩ | ⟨hm, h1, h2, h3⟩
 ·rw [if_pos h1]; exact .inl ⟨rfl, .inr (.inl h1)⟩
 ·rw [if_neg (by omega)]
  rcases findS_cases p b with ⟨g1, g2⟩ | ⟨_, g1, g2, g3⟩
  ·rw [if_pos g1]; exact .inl ⟨rfl, .inr (.inr g1)⟩
  ·rw [if_neg (by omega)]; exact .inr ⟨⟨hm, h1, h2, g1, g2⟩, rfl⟩
def joinP (p : List Int) (a b : Int) : List Int := (joinS p a b).1
theorem joined_eq {p : List Int} {a b : Int} (h : Joined p a b) : joinS p a b = (joinP p a b, true) := by
 rcases join_cases p a b with ⟨_, h2⟩ | ⟨_, h2⟩
 ·have h1 := findS_in h.may h.a0 h.al
  have h3 := findS_in h.may h.b0 h.bl
  rcases h2 with h2 | h2 | h2
  ·rw [h.may] at h2; cases h2
  ·omega
  ·omega
 ·unfold joinP; rw [h2]
theorem joined_spec {p : List Int} {a b : Int} (h : Joined p a b) : (joinP p a b).length = p.length ∧ flat (joinP p a b) (fun i => J (rootN p a.toNat) (rootN p b.toNat) (rootN p i)) := by
 have hA : a.toNat < p.length := by have := h.a0; have := h.al; omega
 have hB : b.toNat < p.length := by have := h.b0; have := h.bl; omega
 have e : joinP p a b = (rootsS p).map (fun r => if r = max (findS p a) (findS p b) then min (findS p a) (findS p b) else r) := by
  rcases join_cases p a b with ⟨h1, _⟩ | ⟨_, h2⟩
  ·have := joined_eq h; rw [h1] at this; exact absurd (congrArg Prod.snd this) (by simp)
  ·unfold joinP; rw [h2]
 have hl : (joinP p a b).length = p.length := by rw [e, List.length_map, rootsS_length p h.may]
 refine ⟨hl, fun i hi => ?_⟩
 rw [hl] at hi
 have hra := rootN_idem h.may hA
 have hrb := rootN_idem h.may hB
 have hla := rootN_le h.may hA
 have hlb := rootN_le h.may hB
 have hri := rootN_idem h.may hi
 have hli := rootN_le h.may hi
 have hat : (joinP p a b).getD i 0 = ((J (rootN p a.toNat) (rootN p b.toNat) (rootN p i) : Nat) : Int) := by
  have hrl : i < (rootsS p).length := by rw [rootsS_length p h.may]; exact hi
  have hr := rootsS_at h.may hi
  rw [List.getD_eq_getElem?_getD, List.getElem?_eq_getElem hrl] at hr
  simp only [Option.getD_some] at hr
  rw [e, List.getD_eq_getElem?_getD, List.getElem?_map, List.getElem?_eq_getElem hrl]
  simp only [Option.map_some, Option.getD_some, hr]
  rw [findS_in h.may h.a0 h.al, findS_in h.may h.b0 h.bl]
  unfold J
  split
  ·rw [if_pos (by omega)]; omega
  ·rw [if_neg (by omega)]
 refine ⟨hat, ?_, ?_⟩
 ·show J _ _ _ ≤ i
  unfold J; split <;> omega
 ·simp only
  generalize rootN p a.toNat = x at *
  generalize rootN p b.toNat = y at *
  unfold J
  by_cases hc : rootN p i = max x y
  ·rw [if_pos hc]
   rcases Nat.le_total x y with hxy | hxy
   ·rw [Nat.min_eq_left hxy, Nat.max_eq_right hxy, hra]; split <;> omega
   ·rw [Nat.min_eq_right hxy, Nat.max_eq_left hxy, hrb]; split <;> omega
  ·rw [if_neg hc, hri, if_neg hc]
theorem joined_length {p : List Int} {a b : Int} (h : Joined p a b) : (joinP p a b).length = p.length := (joined_spec h).1
theorem joined_may {p : List Int} {a b : Int} (h : Joined p a b) : mayB (joinP p a b) = true := flat_may (joined_spec h).2 (by rw [joined_length h]; exact mayB_len h.may)
theorem joined_root {p : List Int} {a b : Int} (h : Joined p a b) {i : Nat} (hi : i < p.length) : rootN (joinP p a b) i = J (rootN p a.toNat) (rootN p b.toNat) (rootN p i) :=
 flat_root (joined_spec h).2 (by rw [joined_length h]; exact mayB_len h.may) (by rw [joined_length h]; exact hi)
theorem joined_flat {p : List Int} {a b : Int} (h : Joined p a b) : rootsS (joinP p a b) = joinP p a b := flat_roots (joined_spec h).2 (by rw [joined_length h]; exact mayB_len h.may)
def cnt (f : Nat → Bool) : Nat → Nat
 | 0 => 0
 | n + 1 => cnt f n + if f n then 1 else 0
theorem cnt_congr {f g : Nat → Bool} : ∀ {n : Nat}, (∀ i, i < n → f i = g i) → cnt f n = cnt g n
 | 0, _ => rfl
 | n + 1, h => by
  unfold cnt
  rw [cnt_congr (fun i hi => h i (by omega)), h n (by omega)]
theorem cnt_drop {f g : Nat → Bool} (m : Nat) (hf : f m = true) (hg : g m = false) : ∀ {n : Nat}, m < n → (∀ i, i < n → i ≠ m → f i = g i) → cnt f n = cnt g n + 1
 | 0, h, _ => absurd h (by omega)
 | n + 1, hm, h => by
  unfold cnt
  by_cases e : m = n
  ·subst e
   rw [cnt_congr (fun i hi => h i (by omega) (by omega)), hf, hg]
   simp
  ·rw [cnt_drop m hf hg (n := n) (by omega) (fun i hi hne => h i (by omega) hne), h n (by omega) (by omega)]
   omega
theorem cnt_le (f : Nat → Bool) : ∀ n, cnt f n ≤ n
 | 0 => Nat.le_refl _
 | n + 1 => by have := cnt_le f n; unfold cnt; split <;> omega
def sets (p : List Int) : Nat := cnt (fun i => decide (rootN p i = i)) p.length
theorem joined_sets {p : List Int} {a b : Int} (h : Joined p a b) : sets p = sets (joinP p a b) + if rootN p a.toNat = rootN p b.toNat then 0 else 1 := by
 have hA : a.toNat < p.length := by have := h.a0; have := h.al; omega
 have hB : b.toNat < p.length := by have := h.b0; have := h.bl; omega
 have hra := rootN_idem h.may hA
 have hrb := rootN_idem h.may hB
 have hla := rootN_le h.may hA
 have hlb := rootN_le h.may hB
 unfold sets
 rw [joined_length h]
 have hroot := fun i hi => joined_root h (i := i) hi
 generalize rootN p a.toNat = x at *
 generalize rootN p b.toNat = y at *
 split
 ·rename_i e
  subst e
  rw [Nat.add_zero]
  refine cnt_congr fun i hi => ?_
  rw [hroot i hi]
  unfold J
  by_cases hc : rootN p i = max x x
  ·rw [if_pos hc]
   have : min x x = rootN p i := by omega
   rw [this]
  ·rw [if_neg hc]
 ·rename_i hne
  refine cnt_drop (max x y) ?_ ?_ (by omega) ?_
  ·rw [decide_eq_true_eq]
   rcases Nat.le_total x y with hxy | hxy
   ·rw [Nat.max_eq_right hxy]; exact hrb
   ·rw [Nat.max_eq_left hxy]; exact hra
  ·rw [decide_eq_false_iff_not, hroot _ (by omega)]
   have : rootN p (max x y) = max x y := by
    rcases Nat.le_total x y with hxy | hxy
    ·rw [Nat.max_eq_right hxy]; exact hrb
    ·rw [Nat.max_eq_left hxy]; exact hra
   rw [this]
   unfold J
   rw [if_pos rfl]
   omega
  ·intro i hi hn
   rw [hroot i hi]
   have hli := rootN_le h.may hi
   have hri := rootN_idem h.may hi
   have hmin : rootN p (min x y) = min x y := by
    rcases Nat.le_total x y with hxy | hxy
    ·rw [Nat.min_eq_left hxy]; exact hra
    ·rw [Nat.min_eq_right hxy]; exact hrb
   rw [Bool.eq_iff_iff, decide_eq_true_eq, decide_eq_true_eq]
   unfold J
   by_cases hc : rootN p i = max x y
   ·rw [if_pos hc]
    constructor
    ·intro e; omega
    ·intro e
     rw [← e] at hc
     rw [hmin] at hc
     omega
   ·rw [if_neg hc]
theorem may_k (p : List Int) (k : Nat) (hp : p.length ≤ 9223372036854775807) (hk : p.length < k) : sets_May.f k p = some (mayB p) := by
 unfold sets_May.f
 exact may_loop p hp p.length k 0 (by omega) (by omega) (fun j hj => by omega)
theorem rd_getD (l : List Int) (n : Nat) : rd l (n : Int) = l.getD n 0 := by simp [rd]
theorem ints_loop (a b : List Int) (hl : a.length = b.length) (ha : a.length ≤ 9223372036854775807) (d : Nat) : ∀ (k i : Nat), i + d = a.length → d < k → (∀ j, j < i → a.getD j 0 = b.getD j 0) →
  roadbookref02_Ints.l0 k a b (i : Int) = some (decide (a = b)) := by
 induction d with
 | zero =>
  intro k i hi hk hj
  obtain ⟨k, rfl⟩ : ∃ m, k = m + 1 := ⟨k - 1, by omega⟩
  simp only [roadbookref02_Ints.l0]
  rw [if_neg (by omega), decide_eq_true (ext_getD hl (fun j h => hj j (by omega)))]
 | succ d ih =>
  intro k i hi hk hj
  obtain ⟨k, rfl⟩ : ∃ m, k = m + 1 := ⟨k - 1, by omega⟩
  simp only [roadbookref02_Ints.l0]
  rw [if_pos (by omega), if_pos (by omega), if_pos (by omega), rd_getD, rd_getD]
  by_cases h : a.getD i 0 = b.getD i 0
  ·rw [if_pos h, wrap_in (by omega) (by omega)]
   refine ih k (i + 1) (by omega) (by omega) fun j hj' => ?_
   rcases Nat.lt_or_ge j i with h1 | h1
   ·exact hj j h1
   ·obtain rfl : j = i := by omega
    exact h
  ·rw [if_neg h, decide_eq_false (fun e => h (by rw [e]))]
theorem ints_k (a b : List Int) (k : Nat) (ha : a.length ≤ 9223372036854775807) (hk : a.length < k) : roadbookref02_Ints.f k a b = some (decide (a = b)) := by
 unfold roadbookref02_Ints.f
 by_cases hl : a.length = b.length
 ·rw [if_pos (by omega)]
  exact ints_loop a b hl ha a.length k 0 (by omega) hk (fun j hj => by omega)
 ·rw [if_neg (by omega), decide_eq_false (fun e => hl (by rw [e]))]
def sameB (p q : List Int) : Bool := mayB p && mayB q && decide (rootsS p = rootsS q)
theorem rootsS_len (p : List Int) : (rootsS p).length ≤ p.length := by
 unfold rootsS; split <;> simp
theorem J_cases (x y r : Nat) : (r = x ∨ r = y) ∧ J x y r = min x y ∨ (r ≠ x ∧ r ≠ y) ∧ J x y r = r := by
 unfold J
 by_cases h1 : r = x
 ·left; refine ⟨.inl h1, ?_⟩; split <;> omega
 ·by_cases h2 : r = y
  ·left; refine ⟨.inr h2, ?_⟩; split <;> omega
  ·right; refine ⟨⟨h1, h2⟩, ?_⟩; rw [if_neg (by omega)]
theorem J_one (a b r s : Nat) : (J a b r = J a b s) ↔ (r = s ∨ ((r = a ∨ r = b) ∧ (s = a ∨ s = b))) := by
 rcases J_cases a b r with ⟨c1, e1⟩ | ⟨c1, e1⟩ <;> rcases J_cases a b s with ⟨c2, e2⟩ | ⟨c2, e2⟩ <;> rw [e1, e2] <;> omega
theorem Joined.of_len {p q : List Int} {a b : Int} (h : Joined p a b) (hm : mayB q = true) (hl : q.length = p.length) : Joined q a b :=
 ⟨hm, h.a0, by rw [hl]; exact h.al, h.b0, by rw [hl]; exact h.bl⟩
theorem Joined.same {p : List Int} {a b c d : Int} (h : Joined p a b) (k : Joined p c d) : Joined p c d ∧ Joined (joinP p a b) c d := ⟨k, k.of_len (joined_may h) (joined_length h)⟩
theorem Joined.na {p : List Int} {a b : Int} (h : Joined p a b) : a.toNat < p.length := by have := h.a0; have := h.al; omega
theorem Joined.nb {p : List Int} {a b : Int} (h : Joined p a b) : b.toNat < p.length := by have := h.b0; have := h.bl; omega
end Go.Proofs.Ytkidnomkfdnciaa.All
