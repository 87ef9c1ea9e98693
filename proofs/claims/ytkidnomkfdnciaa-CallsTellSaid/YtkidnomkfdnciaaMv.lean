/- What the walk has done to a world since a letter for it was known: blocks made, draws, stores into some blocks; all other blocks are as they were. Short words for the printed walks. -/
import Derived.Test.YtkidnomkfdnciaaSets2
namespace Go.Proofs.Ytkidnomkfdnciaa.All
open Go.RowKit Go.Proofs.YtkidnomkfdnciaaW.PrintWords
open Go.Proofs.YtkidnomkfdnciaaW.PrintWords.Kd
class Mv (w W : World) (bs : outParam (List Nat)) : Prop where
 os : W.os = w.os
 tape : W.tape = w.tape
 output : W.output = w.output
 sz : w.heap.size ≤ W.heap.size
 mv : ∀ k, k < w.heap.size → (∀ b, b ∈ bs → k ≠ b) → W.heap[k]? = w.heap[k]?
section
variable {w W : World} {bs : List Nat}
instance Mv.same (w : World) : Mv w w [] := ⟨rfl, rfl, rfl, Nat.le_refl _, fun _ _ _ => rfl⟩
theorem Mv.below (h : Mv w W bs) {W' : World} (hb : Below W.heap.size W W') : Mv w W' bs := ⟨hb.os.trans h.os, hb.tape.trans h.tape, hb.output.trans h.output, Nat.le_trans h.sz hb.size, fun k hk hn => (hb.block k (Nat.lt_of_lt_of_le hk h.sz)).trans (h.mv k hk hn)⟩
instance Mv.alloc [h : Mv w W bs] (o : Obj) : Mv w (W.alloc o) bs := h.below (below_alloc (Below.refl _ _) o)
instance Mv.drewN [h : Mv w W bs] (n : Nat) : Mv w (W.drewN n) bs := h.below (pw_below_drewN (Below.refl _ _) n)
instance Mv.drew [h : Mv w W bs] : Mv w W.drew bs := h.below (below_drew1 (Below.refl _ _))
instance Mv.set [h : Mv w W bs] (g j : Nat) (v : Value) : Mv w (W.setCell ⟨g, j, none⟩ v) (g :: bs) :=
 ⟨h.os, h.tape, h.output, by simpa using h.sz, fun k hk hn => (Below.heap_setCell W ⟨g, j, none⟩ v k (hn g (by simp))).trans (h.mv k hk (fun b hb => hn b (by simp [hb])))⟩
variable {α : Type} {d : Kd α} {e base : Nat} {ok : Nat → Prop} {v : Value} {xs : List α} {g t : Nat} {cells : Array Value} {A : Option Addr} {n c : Nat}
theorem rM (h : d.R e w base ok v xs) [i : Mv w W []] : d.R e W base ok v xs := R_step h (fun k _ hk => i.mv k hk (fun _ hb => by cases hb))
theorem rX (h : d.R e w base ok v xs) (hb : w.heap[g]? = some (.cells cells t (0, 0))) (ht : ∀ q, q ∈ e :: d.E → q ≠ t) (i : Mv w W bs) (hg : ∀ b, b ∈ bs → b = g) : d.R e W base ok v xs :=
 R_mono (R_step (R_types h hb ht) (fun k hk hl => i.mv k hl (fun b hb => by rw [hg b hb]; exact hk.2))) (fun _ hk => hk.1)
theorem rF2 (h : d.R e w base ok v xs) (hb : w.heap[g]? = some (.cells cells t (0, 0))) (ht : ∀ q, q ∈ e :: d.E → q ≠ t) [i : Mv w W [g, g]] : d.R e W base ok v xs := rX h hb ht i (by simp)
theorem rF (h : d.R e w base ok v xs) (hb : w.heap[g]? = some (.cells cells t (0, 0))) (ht : ∀ q, q ∈ e :: d.E → q ≠ t) [i : Mv w W [g, g, g]] : d.R e W base ok v xs := rX h hb ht i (by simp)
theorem sM (h : S d e w base ok v xs) [i : Mv w W []] : S d e W base ok v xs := S_step h (fun k _ hk => i.mv k hk (fun _ hb => by cases hb))
theorem sC (h : S d e w base ok (.slice A n c) xs) [Mv w W []] : d.C W A xs.length xs := (S_reads' (sM (W := W) h)).2.2
theorem cM (h : d.C w A n xs) [i : Mv w W []] : d.C W A n xs := C_below h ⟨i.os, i.tape, i.output, i.sz, fun k hk => i.mv k hk (fun _ hb => by cases hb)⟩
theorem kM {o : Obj} (h : w.heap[g]? = some o) [i : Mv w W []] : W.heap[g]? = some o := (i.mv g (blk_lt h) (fun _ hb => by cases hb)).trans h
theorem kF2 {o : Obj} {b : Nat} (h : w.heap[g]? = some o) (hn : g ≠ b) [i : Mv w W [b, b]] : W.heap[g]? = some o := (i.mv g (blk_lt h) (by simpa using hn)).trans h
theorem kF {o : Obj} {b : Nat} (h : w.heap[g]? = some o) (hn : g ≠ b) [i : Mv w W [b, b, b]] : W.heap[g]? = some o := (i.mv g (blk_lt h) (by simpa using hn)).trans h
theorem kP {x0 x1 x2 y0 y1 y2 : Value} (h : w.heap[g]? = some (.cells #[x0, x1, x2] t (0, 0))) : (((w.setCell ⟨g, 0, none⟩ y0).setCell ⟨g, 1, none⟩ y1).setCell ⟨g, 2, none⟩ y2).heap[g]? = some (.cells #[y0, y1, y2] t (0, 0)) :=
 blk_put (blk_put (blk_put h 0 y0 rfl) 1 y1 rfl) 2 y2 rfl
theorem kP1 {W0 : World} {x0 x1 x2 y0 y1 y2 : Value} (h : w.heap[g]? = some (.cells #[x0, x1, x2] t (0, 0))) [i : Mv w W0 []] : (((W0.setCell ⟨g, 0, none⟩ y0).setCell ⟨g, 1, none⟩ y1).setCell ⟨g, 2, none⟩ y2).heap[g]? = some (.cells #[y0, y1, y2] t (0, 0)) :=
 kP (kM (W := W0) h)
theorem wM {w0 : World} (h : Below w0.heap.size w0 w) [i : Mv w W []] : Below w0.heap.size w0 W := h.trans (Below.mono (B := w.heap.size) ⟨i.os, i.tape, i.output, i.sz, fun k hk => i.mv k hk (fun _ hb => by cases hb)⟩ h.size)
theorem wX {w0 : World} (h : Below w0.heap.size w0 w) (i : Mv w W bs) (hg : ∀ b, b ∈ bs → w0.heap.size ≤ b) : Below w0.heap.size w0 W :=
 h.trans ⟨i.os, i.tape, i.output, i.sz, fun k hk => i.mv k (Nat.lt_of_lt_of_le hk h.size) (fun b hb => Nat.ne_of_lt (Nat.lt_of_lt_of_le hk (hg b hb)))⟩
theorem wF2 {w0 : World} (h : Below w0.heap.size w0 w) (hg : w0.heap.size ≤ g) [i : Mv w W [g, g]] : Below w0.heap.size w0 W := wX h i (by simpa using hg)
theorem wF {w0 : World} (h : Below w0.heap.size w0 w) (hg : w0.heap.size ≤ g) [i : Mv w W [g, g, g]] : Below w0.heap.size w0 W := wX h i (by simpa using hg)
end
end Go.Proofs.Ytkidnomkfdnciaa.All
