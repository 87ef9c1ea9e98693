/- The document's All: a contract that only reads. -/
import Derived.Test.YtkidnomkfdnciaaQCall
import Derived.Test.YtkidnomkfdnciaaMv
import Derived.Test.YtkidnomkfdnciaaAllx25
namespace Go.Proofs.Ytkidnomkfdnciaa.All
open Go.RowKit Go.Proofs.Ytkidnomkfdnciaa.Pure Go.Proofs.YtkidnomkfdnciaaW.PrintWords Go.Proofs.YtkidnomkfdnciaaW.PrintLast Go.Proofs.YtkidnomkfdnciaaW.PrintMore
set_option linter.unusedVariables false
set_option linter.unusedSimpArgs false
def Off (A : Option Addr) (n : Nat) (b : Nat → Prop) : Prop := 0 < n → ∀ ad, A = some ad → ¬ b ad.block
theorem Off.mono {A : Option Addr} {n : Nat} {b b' : Nat → Prop} (h : Off A n b) (hb : ∀ k, b' k → b k) : Off A n b' := fun hn ad e hk => h hn ad e (hb _ hk)
theorem C_mv {α : Type} {d : Kd α} {W W' : World} {bs : List Nat} {A : Option Addr} {n : Nat} {xs : List α} (i : Mv W W' bs) (h : d.C W A n xs) (ho : Off A n (fun k => k ∈ bs)) (hs : 0 < d.sz) (hv : ∀ y cs, d.K W y cs → d.K W' y cs) : d.C W' A n xs := by
 have hlt : 0 < n → ∀ ad, A = some ad → ad.block < W.heap.size := fun hn ad e => by subst e; exact Kd.C_lt h hn hs
 obtain ⟨h1, h2, h3⟩ := h
 refine ⟨h1, h2, fun hn => ?_⟩
 obtain ⟨ad, e, hc⟩ := h3 hn
 refine ⟨ad, e, fun j y hj => ?_⟩
 obtain ⟨cs, hl, hK, hcell⟩ := hc j y hj
 refine ⟨cs, hl, hv _ _ hK, fun q u hi => ?_⟩
 have hb : ∀ k, (ad.add k).block = ad.block := fun k => by unfold Addr.add; split <;> rfl
 rw [World.cell?_of_block (w := W) (w' := W') (by rw [hb]; exact i.mv _ (hlt hn ad e) (fun b hbm e' => ho hn ad e (by rw [e']; exact hbm)))]
 exact hcell q u hi
structure MOff (AN : Option Addr) (N : List S48) (AG : Option Addr) (G : List Int) (AP : Option Addr) (P : List Int) (b : Nat → Prop) : Prop where
 n : Off AN N.length b
 g : Off AG G.length b
 p : Off AP P.length b
section
variable {w w1 w2 W W' : World} {bs : List Nat} {AN AG AP AN' AG' AP' : Option Addr} {cN cG cP cN' cG' cP' : Nat} {N N' : List S48} {G P G' P' : List Int} {b b' : Nat → Prop}
theorem MOff.mono (h : MOff AN N AG G AP P b) (hb : ∀ k, b' k → b k) : MOff AN N AG G AP P b' := ⟨h.n.mono hb, h.g.mono hb, h.p.mono hb⟩
theorem MemoAt.mv (h : MemoAt W AN cN N AG cG G AP cP P) (i : Mv W W' bs) (o : MOff AN N AG G AP P (fun k => k ∈ bs)) : MemoAt W' AN cN N AG cG G AP cP P :=
 ⟨C_mv i h.n o.n (by decide) (fun y cs hK => by rw [k48_open hK]; exact k48_mk _ _), h.nc, C_mv i h.g o.g (by decide) (fun _ _ hK => hK), h.gc, C_mv i h.p o.p (by decide) (fun _ _ hK => hK), h.pc⟩
theorem MemoAt.lt (h : MemoAt W AN cN N AG cG G AP cP P) : MOff AN N AG G AP P (fun k => W.heap.size ≤ k) :=
 ⟨fun hn ad e => by subst e; exact Nat.not_le.2 (Kd.C_lt h.n hn (by decide)), fun hn ad e => by subst e; exact Nat.not_le.2 (Kd.C_lt h.g hn (by decide)), fun hn ad e => by subst e; exact Nat.not_le.2 (Kd.C_lt h.p hn (by decide))⟩
theorem Hand.off {α : Type} {s : Nat} {A A' : Option Addr} {xs xs' : List α} (h : Hand s A xs A' xs') (h0 : Off A xs.length b) (hl : Off A' xs'.length (fun k => W.heap.size ≤ k)) (hb : ∀ k, s ≤ k → k < W.heap.size → ¬ b k) : Off A' xs'.length b := by
 rcases h with ⟨rfl, rfl⟩ | h
 ·exact h0
 ·exact fun hn ad e => hb _ (h ad e) (Nat.not_le.1 (hl hn ad e))
structure Did (N : List S48) (G P : List Int) (AN AG AP : Option Addr) (c : S76) (s : Option Addr × Nat × Option Addr × Nat × Option Addr × Nat) (w1 w2 : World) : Prop where
 m : MemoAt w2 s.1 s.2.1 (doT N G P c).1 s.2.2.1 s.2.2.2.1 (doT N G P c).2.1 s.2.2.2.2.1 s.2.2.2.2.2 (doT N G P c).2.2.1
 n : Hand w1.heap.size AN N s.1 (doT N G P c).1
 g : Hand w1.heap.size AG G s.2.2.1 (doT N G P c).2.1
 p : Hand w1.heap.size AP P s.2.2.2.2.1 (doT N G P c).2.2.1
def didA (N : List S48) (G P : List Int) (c : S76) (s : Option Addr × Nat × Option Addr × Nat × Option Addr × Nat) : Value := .agg #[.slice s.1 (doT N G P c).1.length s.2.1, .slice s.2.2.1 (doT N G P c).2.1.length s.2.2.2.1, .slice s.2.2.2.2.1 (doT N G P c).2.2.1.length s.2.2.2.2.2]
def didB (N : List S48) (G P : List Int) (c : S76) : Value := .agg #[.int .i64 (doT N G P c).2.2.2.1, .int .i64 (doT N G P c).2.2.2.2]
theorem rdo_did (c : S76) (h : MemoAt w AN cN N AG cG G AP cP P) :
  Calls Try.prog 64 #[.agg #[.slice AN N.length cN, .slice AG G.length cG, .slice AP P.length cP], .agg #[.int .i64 c.f0, .bool c.f1.f0, .int .i64 c.f1.f1, .int .i64 c.f1.f2, .int .i64 c.f1.f3, .int .i64 c.f2, .int .i64 c.f3]] w fun e w' => ∃ s, e = .returned (.tuple #[didA N G P c s, didB N G P c]) ∧ Did N G P AN AG AP c s w w' ∧ Below w.heap.size w w' :=
 (rdo_at c h).mono fun e w' ⟨A0, c0, A1, c1, A2, c2, he, hm, k0, k1, k2, hb⟩ => ⟨(A0, c0, A1, c1, A2, c2), he, ⟨hm, k0, k1, k2⟩, hb⟩
theorem Did.off {s : Option Addr × Nat × Option Addr × Nat × Option Addr × Nat} {c : S76} (h : Did N G P AN AG AP c s w1 w2) (h0 : MOff AN N AG G AP P b) (hb : ∀ k, w1.heap.size ≤ k → k < w2.heap.size → ¬ b k) : MOff s.1 (doT N G P c).1 s.2.2.1 (doT N G P c).2.1 s.2.2.2.2.1 (doT N G P c).2.2.1 b :=
 ⟨h.n.off h0.n h.m.lt.n hb, h.g.off h0.g h.m.lt.g hb, h.p.off h0.p h.m.lt.p hb⟩
end
theorem run_alloc38 (ev : Operand → Value) (w : World) (N : Tmp) (a : Array Edge) (p : String) : (execOp ev ⟨some N, .alloc 38, 0, p, a, none⟩).run Try.prog w = .ok (.value (.pointer (some ⟨w.heap.size, 0, none⟩))) (w.alloc (.cells #[.slice none 0 0, .slice none 0 0, .slice none 0 0] 38)) := by
 kernel_rfl
theorem run_alloc73 (ev : Operand → Value) (w : World) (N : Tmp) (a : Array Edge) (p : String) : (execOp ev ⟨some N, .alloc 73, 0, p, a, none⟩).run Try.prog w = .ok (.value (.pointer (some ⟨w.heap.size, 0, none⟩))) (w.alloc (.cells #[.int .i64 0, .int .i64 0] 73)) := by
 kernel_rfl
end Go.Proofs.Ytkidnomkfdnciaa.All
