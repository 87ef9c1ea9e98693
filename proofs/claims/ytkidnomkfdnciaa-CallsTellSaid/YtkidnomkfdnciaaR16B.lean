/- The document's functions on sets and memos: contracts (node, Find, Canon). -/
import Derived.Test.YtkidnomkfdnciaaBk
import Derived.Test.YtkidnomkfdnciaaQRel
import Derived.Outline
import Derived.Test.YtkidnomkfdnciaaSets2
namespace Go.Proofs.Ytkidnomkfdnciaa.All
open Go.RowKit Go.Proofs.YtkidnomkfdnciaaW.PrintWords Go.Proofs.YtkidnomkfdnciaaW.PrintLast Go.Proofs.YtkidnomkfdnciaaW.PrintMore
attribute [local go_sem] QR.Oq QR.Yq QR.Cls
set_option linter.unusedVariables false
set_option linter.unusedSimpArgs false
section
variable {w : World} {A B AN AG AP : Option Addr} {c d cN cG cP : Nat} {p q : List Int} {N : List S48} {G P : List Int}
theorem may15_at (h : Kd.C (Kd.int .i64) w A p.length p) (hc : p.length ≤ c) : Calls Try.prog 31 #[.slice A p.length c] w fun e w' => e = .returned (.bool (mayB p)) ∧ Drawn0 w w' :=
 roadbookref15_May.calls (p.length + 1) A c p _ w h hc (may15_k p _ h.2.1 (by omega))
theorem find15_at (a : Int) (h : Kd.C (Kd.int .i64) w A p.length p) (hc : p.length ≤ c) : Calls Try.prog 32 #[.slice A p.length c, .int .i64 a] w fun e w' => e = .returned (.int .i64 (findS p a)) ∧ Drawn0 w w' :=
 roadbookref15_Find.calls (p.length + 2) A c p a _ w h hc (find15_k p a _ h.2.1 (by omega))
theorem same15_at (h : Kd.C (Kd.int .i64) w A p.length p) (hc : p.length ≤ c) (h' : Kd.C (Kd.int .i64) w B q.length q) (hd : q.length ≤ d) (hp : p.length ≤ 4611686018427387904) (hq : q.length ≤ 4611686018427387904) :
  Calls Try.prog 37 #[.slice A p.length c, .slice B q.length d] w fun e w' => e = .returned (.bool (sameB p q)) ∧ Below w.heap.size w w' :=
 roadbookref15_Same.calls (2 * p.length + 2 * q.length + 3) A c p B d q _ w h hc h' hd (same15_k p q _ hp hq (by omega) (by omega))
set_option maxHeartbeats 4000000 in
set_option maxRecDepth 100000 in
theorem rfind_at (g : Int) (h : MemoAt w AN cN N AG cG G AP cP P) : Calls Try.prog 53 #[.agg #[.slice AN N.length cN, .slice AG G.length cG, .slice AP P.length cP], .int .i64 g] w fun e w' => e = .returned (.int .i64 (findS P g)) ∧ Below w.heap.size w w' := by
 have hb := below_alloc (Below.refl w.heap.size w) (.cells #[.slice AN N.length cN, .slice AG G.length cG, .slice AP P.length cP] 38)
 have HC := Aside0.mk (find15_at g (h.below hb).p (h.below hb).pc)
 have HB := Aside0.mk hb
 clear h hb
 go_enter Try.func53, Try.ntmps53
 go_wp2_with (go_at_call 32; refine HC.out.mono ?_; rintro e w1 ⟨rfl, hd⟩; have HD := Aside0.mk hd.below; clear hd)
 go_ret
 exact ⟨rfl, below_then HB.out HB.out.size HD.out⟩
set_option maxHeartbeats 8000000 in
set_option maxRecDepth 100000 in
theorem rnode_at (n : S48) (h : MemoAt w AN cN N AG cG G AP cP P) : Calls Try.prog 81 #[.agg #[.slice AN N.length cN, .slice AG G.length cG, .slice AP P.length cP], .agg #[.bool n.f0, .int .i64 n.f1, .int .i64 n.f2, .int .i64 n.f3]] w fun e w' => e = .returned (.bool (nodeB P n)) ∧ Below w.heap.size w w' := by
 obtain ⟨j, o, a, b⟩ := n
 dsimp only
 have hm := h.p.2.1
 clear h
 unfold nodeB inB
 dsimp only
 cases j with
 | true =>
  go_enter Try.func81, Try.ntmps81
  go_wp2
  all_goals (go_ret; refine ⟨?_, below_alloc (below_alloc (Below.refl _ _) _) _⟩; first | rfl | (congr 2; first | (simp; omega) | (simp [*]; done) | (by_cases hb : b = 0 <;> simp [hb] <;> omega)) | (simp [*]; done))
 | false =>
  go_enter Try.func81, Try.ntmps81
  go_wp2
  all_goals (go_ret; refine ⟨?_, below_alloc (below_alloc (Below.refl _ _) _) _⟩; first | rfl | (congr 2; first | (simp; omega) | (simp [*]; done) | (by_cases hb : b = 0 <;> simp [hb] <;> omega)) | (simp [*]; done))
theorem nput {w : World} {g : Nat} {t : TypeId} {x0 x1 x2 x3 : Value} (y0 y1 y2 y3 : Value) (h : w.heap[g]? = some (.cells #[x0, x1, x2, x3] t (0, 0))) : ((((w.setCell ⟨g, 0, none⟩ y0).setCell ⟨g, 1, none⟩ y1).setCell ⟨g, 2, none⟩ y2).setCell ⟨g, 3, none⟩ y3).heap[g]? = some (.cells #[y0, y1, y2, y3] t (0, 0)) :=
 blk_put (blk_put (blk_put (blk_put h 0 y0 rfl) 1 y1 rfl) 2 y2 rfl) 3 y3 rfl
theorem box3_new (w : World) (AN : Option Addr) (cN : Nat) (N : List S48) (AG : Option Addr) (cG : Nat) (G : List Int) (AP : Option Addr) (cP : Nat) (P : List Int) (o o' : Obj) :
  MBox (((w.alloc (.cells #[.slice AN N.length cN, .slice AG G.length cG, .slice AP P.length cP] 38)).alloc o).alloc o') w.heap.size AN cN N AG cG G AP cP P ∧
  (((w.alloc (.cells #[.slice AN N.length cN, .slice AG G.length cG, .slice AP P.length cP] 38)).alloc o).alloc o').heap[w.heap.size + 1]? = some o ∧
  (((w.alloc (.cells #[.slice AN N.length cN, .slice AG G.length cG, .slice AP P.length cP] 38)).alloc o).alloc o').heap[w.heap.size + 2]? = some o' ∧
  Below w.heap.size w (((w.alloc (.cells #[.slice AN N.length cN, .slice AG G.length cG, .slice AP P.length cP] 38)).alloc o).alloc o') := by
 refine ⟨(box_new w AN cN N AG cG G AP cP P).below (below_alloc (below_alloc (Below.refl _ _) _) _), ?_, ?_, below_alloc (below_alloc (below_alloc (Below.refl _ _) _) _) _⟩
 ·have h := heap_alloc_new (w.alloc (.cells #[.slice AN N.length cN, .slice AG G.length cG, .slice AP P.length cP] 38)) o
  rw [alloc_size1] at h
  exact blk_below h (below_alloc (Below.refl _ _) o')
 ·have h := heap_alloc_new ((w.alloc (.cells #[.slice AN N.length cN, .slice AG G.length cG, .slice AP P.length cP] 38)).alloc o) o'
  rw [rfl_size] at h
  exact h
theorem below_put4 {w W : World} {g : Nat} {y0 y1 y2 y3 : Value} (h : Below w.heap.size w W) (hg : w.heap.size ≤ g) : Below w.heap.size w ((((W.setCell ⟨g, 0, none⟩ y0).setCell ⟨g, 1, none⟩ y1).setCell ⟨g, 2, none⟩ y2).setCell ⟨g, 3, none⟩ y3) :=
 below_set (below_set (below_set (below_set h hg) hg) hg) hg
set_option maxHeartbeats 16000000 in
set_option maxRecDepth 100000 in
theorem rcanon_no (n : S48) (h : MemoAt w AN cN N AG cG G AP cP P) (hno : nodeB P n = false ∨ nodeB P n = true ∧ (mayB P = false ∨ mayB P = true ∧ n.f0 = false)) : Calls Try.prog 54 #[.agg #[.slice AN N.length cN, .slice AG G.length cG, .slice AP P.length cP], .agg #[.bool n.f0, .int .i64 n.f1, .int .i64 n.f2, .int .i64 n.f3]] w fun e w' => e = .returned (.agg #[.bool n.f0, .int .i64 n.f1, .int .i64 n.f2, .int .i64 n.f3]) ∧ Below w.heap.size w w' := by
 obtain ⟨hx, hy, hz, hb⟩ := box3_new w AN cN N AG cG G AP cP P (.cells #[.bool n.f0, .int .i64 n.f1, .int .i64 n.f2, .int .i64 n.f3] 48) (.cells #[.bool false, .int .i64 0, .int .i64 0, .int .i64 0] 48)
 have HB := Aside0.mk hb
 have HX := Aside0.mk hx
 have HY := Aside0.mk hy
 have HZ := Aside0.mk hz
 have HN := Aside0.mk (rnode_at n (h.below hb))
 have HM := Aside0.mk (fun (W : World) (h : MemoAt W AN cN N AG cG G AP cP P) => may15_at h.p h.pc)
 have HH := Aside0.mk (h.below hb)
 have HG := Aside0.mk (show w.heap.size ≤ w.heap.size + 2 by omega)
 obtain ⟨j, o, a, b⟩ := n
 clear h hb hx hy hz
 obtain ⟨vm, hvm⟩ : ∃ v, v = mayB P := ⟨_, rfl⟩
 rw [← hvm] at HM hno
 rcases hno with h1 | ⟨h1, h2 | ⟨h2, h3⟩⟩
 ·rw [h1] at HN; clear h1 hvm; dsimp only at *
  go_enter Try.func54, Try.ntmps54
  go_wp2_with (first | (go_at_call 81; refine HN.out.mono ?_; rintro e w1 ⟨rfl, hb1⟩; have HB1 := Aside0.mk hb1; obtain ⟨ha0, ha1, ha2⟩ := (HX.out.below hb1).cells; clear hb1) | (go_at_call 31; refine (HM.out _ (HH.out.below HB1.out)).mono ?_; rintro e w2 ⟨rfl, hd⟩; have HB2 := Aside0.mk (HB1.out.trans (hd.below.mono HB1.out.size)); obtain ⟨hc0, hc1, hc2, hc3, hf0, hf1, hf2, hf3⟩ := bk4 (blk_below HY.out HB2.out); obtain ⟨he0, he1, he2, he3, hg0, hg1, hg2, hg3⟩ := bk4 (blk_below HZ.out HB2.out); clear hd))
  exact bodyPost_ret (results_cell_row rfl _ _ (w.heap.size + 2) 48 #[.bool _, .int .i64 o, .int .i64 a, .int .i64 b] (0, 0) _ rfl (nput _ _ _ _ (blk_below HZ.out HB2.out)) Try.underlying48 rfl (by kernel_rfl)) rfl ⟨rfl, below_put4 (below_then HB.out HB.out.size HB2.out) HG.out⟩
 ·rw [h1] at HN; subst h2; clear h1 hvm; dsimp only at *
  go_enter Try.func54, Try.ntmps54
  go_wp2_with (first | (go_at_call 81; refine HN.out.mono ?_; rintro e w1 ⟨rfl, hb1⟩; have HB1 := Aside0.mk hb1; obtain ⟨ha0, ha1, ha2⟩ := (HX.out.below hb1).cells; clear hb1) | (go_at_call 31; refine (HM.out _ (HH.out.below HB1.out)).mono ?_; rintro e w2 ⟨rfl, hd⟩; have HB2 := Aside0.mk (HB1.out.trans (hd.below.mono HB1.out.size)); obtain ⟨hc0, hc1, hc2, hc3, hf0, hf1, hf2, hf3⟩ := bk4 (blk_below HY.out HB2.out); obtain ⟨he0, he1, he2, he3, hg0, hg1, hg2, hg3⟩ := bk4 (blk_below HZ.out HB2.out); clear hd))
  exact bodyPost_ret (results_cell_row rfl _ _ (w.heap.size + 2) 48 #[.bool _, .int .i64 o, .int .i64 a, .int .i64 b] (0, 0) _ rfl (nput _ _ _ _ (blk_below HZ.out HB2.out)) Try.underlying48 rfl (by kernel_rfl)) rfl ⟨rfl, below_put4 (below_then HB.out HB.out.size HB2.out) HG.out⟩
 ·rw [h1] at HN; subst h2; clear h1 hvm; dsimp only at *; subst h3
  go_enter Try.func54, Try.ntmps54
  go_wp2_with (first | (go_at_call 81; refine HN.out.mono ?_; rintro e w1 ⟨rfl, hb1⟩; have HB1 := Aside0.mk hb1; obtain ⟨ha0, ha1, ha2⟩ := (HX.out.below hb1).cells; clear hb1) | (go_at_call 31; refine (HM.out _ (HH.out.below HB1.out)).mono ?_; rintro e w2 ⟨rfl, hd⟩; have HB2 := Aside0.mk (HB1.out.trans (hd.below.mono HB1.out.size)); obtain ⟨hc0, hc1, hc2, hc3, hf0, hf1, hf2, hf3⟩ := bk4 (blk_below HY.out HB2.out); obtain ⟨he0, he1, he2, he3, hg0, hg1, hg2, hg3⟩ := bk4 (blk_below HZ.out HB2.out); clear hd))
  exact bodyPost_ret (results_cell_row rfl _ _ (w.heap.size + 2) 48 #[.bool _, .int .i64 o, .int .i64 a, .int .i64 b] (0, 0) _ rfl (nput _ _ _ _ (blk_below HZ.out HB2.out)) Try.underlying48 rfl (by kernel_rfl)) rfl ⟨rfl, below_put4 (below_then HB.out HB.out.size HB2.out) HG.out⟩
set_option maxHeartbeats 16000000 in
set_option maxRecDepth 100000 in
theorem rcanon_yes (o a b : Int) (h : MemoAt w AN cN N AG cG G AP cP P) (h1 : nodeB P ⟨true, o, a, b⟩ = true) (h2 : mayB P = true) : Calls Try.prog 54 #[.agg #[.slice AN N.length cN, .slice AG G.length cG, .slice AP P.length cP], .agg #[.bool true, .int .i64 o, .int .i64 a, .int .i64 b]] w fun e w' => e = .returned (.agg #[.bool true, .int .i64 0, .int .i64 (findS P a), .int .i64 (findS P b)]) ∧ Below w.heap.size w w' := by
 obtain ⟨hx, hy, hz, hb⟩ := box3_new w AN cN N AG cG G AP cP P (.cells #[.bool true, .int .i64 o, .int .i64 a, .int .i64 b] 48) (.cells #[.bool false, .int .i64 0, .int .i64 0, .int .i64 0] 48)
 have HB := Aside0.mk hb
 have HX := Aside0.mk hx
 have HY := Aside0.mk hy
 have HZ := Aside0.mk hz
 have HN := Aside0.mk (rnode_at ⟨true, o, a, b⟩ (h.below hb))
 have HM := Aside0.mk (fun (W : World) (h : MemoAt W AN cN N AG cG G AP cP P) => may15_at h.p h.pc)
 have HH := Aside0.mk (h.below hb)
 have HG := Aside0.mk (show w.heap.size ≤ w.heap.size + 2 by omega)
 have HF := Aside0.mk (fun (W : World) (x : Int) (h : MemoAt W AN cN N AG cG G AP cP P) => (find15_at x h.p h.pc).mono (fun e w' ⟨he, hd⟩ => (⟨he, hd.below⟩ : _ ∧ Below W.heap.size W w')))
 rw [h1] at HN
 rw [h2] at HM
 clear h hb hx hy hz h1 h2
 obtain ⟨fa, hfa⟩ : ∃ x, x = findS P a := ⟨_, rfl⟩
 obtain ⟨fb, hfb⟩ : ∃ x, x = findS P b := ⟨_, rfl⟩
 rw [← hfa, ← hfb]
 have HFA := Aside0.mk hfa
 have HFB := Aside0.mk hfb
 clear hfa hfb
 go_enter Try.func54, Try.ntmps54
 go_wp2_with (first | (go_at_call 81; refine HN.out.mono ?_; rintro e w1 ⟨rfl, hb1⟩; have HB1 := Aside0.mk hb1; obtain ⟨ha0, ha1, ha2⟩ := (HX.out.below hb1).cells; clear hb1) | (go_at_call 31; refine (HM.out _ (HH.out.below HB1.out)).mono ?_; rintro e w2 ⟨rfl, hd⟩; have HB2 := Aside0.mk (HB1.out.trans (hd.below.mono HB1.out.size)); obtain ⟨hc0, hc1, hc2, hc3, hf0, hf1, hf2, hf3⟩ := bk4 (blk_below HY.out HB2.out); clear hd))
 obtain ⟨hk0, hk1, hk2⟩ := (HX.out.below HB2.out).cells
 have q2 := fun d os => cell_regrown hk2 d os
 have p2 := fun d os => cell_regrown hc2 d os
 have p3 := fun d os => cell_regrown hc3 d os
 have cA := fun d os => QR.bel (HF.out (Go.Sort.grow (redrawn w2 d) os) a ((HH.out.below HB2.out).below (below_regrown w2 d os)))
 have cB := fun d os => QR.bel (HF.out (Go.Sort.grow (redrawn w2 d) os) b ((HH.out.below HB2.out).below (below_regrown w2 d os)))
 rw [← HFA.out] at cA
 rw [← HFB.out] at cB
 refine QR.region 11 (by first | assumption | kernel_rfl) (by kernel_rfl) ?_
 simp only [List.take_succ_cons, List.take_zero, List.drop_succ_cons, List.drop_zero]
 have hu48 := Try.underlying48
 repeat (refine QR.txt_step (fun K hK => ?_); go_simp; first | (refine hK _ ?_; clear hK K) | (apply Exists.intro; refine ⟨fun _ => ?_, hK _ ?_⟩; (first | with_reducible exact cA _ _ | with_reducible exact cB _ _); clear hK K))
 refine QR.txt_nil ?_
 intro _ hw'
 obtain ⟨⟨dq, osq⟩, hw''⟩ := hw'
 subst hw''
 have HB3 := Aside0.mk (HB2.out.trans ((below_regrown w2 dq osq).mono HB2.out.size))
 obtain ⟨w3, hw3⟩ : ∃ W, W = Go.Sort.grow (redrawn w2 dq) osq := ⟨_, rfl⟩
 rw [← hw3] at HB3 ⊢
 obtain ⟨he0, he1, he2, he3, hg0, hg1, hg2, hg3⟩ := bk4 (blk_below HZ.out HB3.out)
 clear hw3 q2 p2 p3 cA cB
 go_wp2
 exact bodyPost_ret (results_cell_row rfl _ _ (w.heap.size + 2) 48 #[.bool true, .int .i64 0, .int .i64 fa, .int .i64 fb] (0, 0) _ rfl (nput _ _ _ _ (blk_below HZ.out HB3.out)) Try.underlying48 rfl (by kernel_rfl)) rfl ⟨rfl, below_put4 (below_then HB.out HB.out.size HB3.out) HG.out⟩
theorem rcanon_at (n : S48) (h : MemoAt w AN cN N AG cG G AP cP P) : Calls Try.prog 54 #[.agg #[.slice AN N.length cN, .slice AG G.length cG, .slice AP P.length cP], .agg #[.bool n.f0, .int .i64 n.f1, .int .i64 n.f2, .int .i64 n.f3]] w fun e w' => e = .returned (.agg #[.bool (CanonS N G P n).f0, .int .i64 (CanonS N G P n).f1, .int .i64 (CanonS N G P n).f2, .int .i64 (CanonS N G P n).f3]) ∧ Below w.heap.size w w' := by
 unfold CanonS
 cases hn : nodeB P n with
 | false => rw [Bool.and_false, if_neg (by decide)]; exact rcanon_no n h (.inl hn)
 | true =>
  cases hm : mayB P with
  | false => rw [Bool.false_and, if_neg (by decide)]; exact rcanon_no n h (.inr ⟨hn, .inl hm⟩)
  | true =>
   rw [Bool.and_self, if_pos rfl]
   cases hj : n.f0 with
   | false =>
    have := rcanon_no n h (.inr ⟨hn, .inr ⟨hm, hj⟩⟩)
    rw [canon_not _ hj]
    rw [hj] at this ⊢
    exact this
   | true =>
    have h1 := (node_join hn hj).1
    have e : (⟨true, n.f1, n.f2, n.f3⟩ : S48) = n := by rw [← hj]
    have hy := rcanon_yes n.f1 n.f2 n.f3 h (by rw [e]; exact hn) hm
    rw [canon_join hm hn hj, h1]
    rw [h1] at hy
    exact hy
end
end Go.Proofs.Ytkidnomkfdnciaa.All
namespace Go.Proofs.Ytkidnomkfdnciaa.All
open Go.RowKit Go.Proofs.YtkidnomkfdnciaaW.PrintWords Go.Proofs.YtkidnomkfdnciaaW.PrintLast Go.Proofs.YtkidnomkfdnciaaW.PrintMore
attribute [local go_sem] QR.Oq QR.Yq QR.Cls
attribute [local go_sem high] eqA48
set_option linter.unusedVariables false
set_option linter.unusedSimpArgs false
def placeS (cs : List S48) (n : S48) (k : Nat) : Int := match posN cs n k with
 | none => -1
 | some i => (i : Int)
theorem run_alloc48 (ev : Operand → Value) (w : World) (N : Tmp) (a : Array Edge) (p : String) : (execOp ev ⟨some N, .alloc 48, 0, p, a, none⟩).run Try.prog w = .ok (.value (.pointer (some ⟨w.heap.size, 0, none⟩))) (w.alloc (.cells #[.bool false, .int .i64 0, .int .i64 0, .int .i64 0] 48)) := by
 kernel_rfl
section
variable {w : World} {AN AG AP : Option Addr} {cN cG cP : Nat} {N : List S48} {G P : List Int}
set_option maxHeartbeats 16000000 in
set_option maxRecDepth 100000 in
theorem rplace_at (n : S48) (cs : List S48) (h : MemoAt w AN cN N AG cG G AP cP P) (hcs : ∀ k, k < N.length → CanonS N G P (N.getD k z48) = cs.getD k z48) : Calls Try.prog 83 #[.agg #[.slice AN N.length cN, .slice AG G.length cG, .slice AP P.length cP], .agg #[.bool n.f0, .int .i64 n.f1, .int .i64 n.f2, .int .i64 n.f3]] w fun e w' => e = .returned (.int .i64 (placeS cs n N.length)) ∧ Below w.heap.size w w' := by
 obtain ⟨hx, hy, hb⟩ := box2_new w AN cN N AG cG G AP cP P n
 have hmax := h.n.2.1
 have HB := Aside0.mk hb
 have HX := Aside0.mk hx
 have HY := Aside0.mk (show NBox _ _ n from hy)
 have HH := Aside0.mk (h.below hb)
 have HC := Aside0.mk (fun (W : World) (x : S48) (h : MemoAt W AN cN N AG cG G AP cP P) => rcanon_at x h)
 have HCS := Aside0.mk hcs
 obtain ⟨r, hr⟩ : ∃ r, r = placeS cs n N.length := ⟨_, rfl⟩
 rw [← hr]
 have HR := Aside0.mk hr
 clear h hb hx hy hcs hr
 go_enter Try.func83, Try.ntmps83
 go_wp2
 go_loopw [5] (fun i wr => ∃ k : Nat, k ≤ N.length ∧ i = .int .i64 k ∧ Aside0 (posN cs n k = none) ∧ Aside0 (Below ((w.alloc (.cells #[.slice AN N.length cN, .slice AG G.length cG, .slice AP P.length cP] 38)).alloc (.cells #[.bool n.f0, .int .i64 n.f1, .int .i64 n.f2, .int .i64 n.f3] 48)).heap.size ((w.alloc (.cells #[.slice AN N.length cN, .slice AG G.length cG, .slice AP P.length cP] 38)).alloc (.cells #[.bool n.f0, .int .i64 n.f1, .int .i64 n.f2, .int .i64 n.f3] 48)) wr)) (fun i _ => N.length - (intOf i).toNat)
 case atStart => exact ⟨0, Nat.zero_le _, rfl, ⟨rfl⟩, ⟨Below.refl _ _⟩⟩
 case round =>
  obtain ⟨k, hk, rfl, HP, HL⟩ := hrel
  obtain ⟨hc0, hc1, hc2⟩ := (HX.out.below HL.out).cells
  by_cases hlt : k < N.length
  ·obtain ⟨ad, rfl, hd0, hd1, hd2, hd3⟩ := at_T48 (HH.out.below HL.out).n (k : Int) (by omega) (by omega)
   obtain ⟨x, hx⟩ : ∃ x, x = N.getD k z48 := ⟨_, rfl⟩
   rw [Int.toNat_natCast, show rd_T48 N (k : Int) = x from by rw [hx]; simp [rd_T48]] at hd0 hd1 hd2 hd3
   obtain ⟨y, hy⟩ : ∃ y, y = cs.getD k z48 := ⟨_, rfl⟩
   have HXY := Aside0.mk (show CanonS N G P x = y by rw [hx, hy]; exact HCS.out k hlt)
   have HYY := Aside0.mk hy
   clear hx hy
   go_wp2
   have p0 := fun d os => cell_regrown hc0 d os
   have p1 := fun d os => cell_regrown hc1 d os
   have p2 := fun d os => cell_regrown hc2 d os
   have q0 := fun d os => cell_regrown hd0 d os
   have q1 := fun d os => cell_regrown hd1 d os
   have q2 := fun d os => cell_regrown hd2 d os
   have q3 := fun d os => cell_regrown hd3 d os
   have cC := fun d os => QR.bel (HC.out (Go.Sort.grow (redrawn wr d) os) x ((HH.out.below HL.out).below (below_regrown wr d os)))
   rw [HXY.out] at cC
   have hu48 := Try.underlying48
   refine QR.region_alloc 8 7 6 _ 48 (.cells #[.bool false, .int .i64 0, .int .i64 0, .int .i64 0] 48) (by first | assumption | kernel_rfl) rfl rfl rfl rfl (by decide) (fun ev w => run_alloc48 ev w _ _ _) (by kernel_rfl) (by kernel_rfl) ?_
   simp only [List.set_cons_succ, List.set_cons_zero, QR.still, List.take_succ_cons, List.take_zero, List.drop_succ_cons, List.drop_zero]
   repeat (refine QR.txt_step (fun K hK => ?_); have HK := Aside0.mk hK; clear hK; go_simp; first | (refine HK.out _ ?_; clear HK K) | (apply Exists.intro; refine ⟨fun _ => ?_, HK.out _ ?_⟩; (with_reducible exact cC _ _); clear HK K))
   refine QR.txt_nil ?_
   intro gb hgb w1 hw1 hg
   have HW := Aside0.mk (HL.out.trans (hw1.below.mono HL.out.size))
   have HGB := Aside0.mk hgb
   have HG := Aside0.mk hg
   clear p0 p1 p2 q0 q1 q2 q3 cC hw1 hgb
   obtain ⟨he0, he1, he2, he3, hf0, hf1, hf2, hf3⟩ := bk4 hg
   obtain ⟨hy0, hy1, hy2, hy3⟩ := (HY.out.below HW.out).cells
   have hlt3 := blk_lt (HY.out.below HL.out)
   have hn1 : w.heap.size + 1 ≠ gb := by have := HGB.out; omega
   have hn2 : gb ≠ w.heap.size + 1 := by have := HGB.out; omega
   have HGW := Aside0.mk (show ((w.alloc (.cells #[.slice (some ad) N.length cN, .slice AG G.length cG, .slice AP P.length cP] 38)).alloc (.cells #[.bool n.f0, .int .i64 n.f1, .int .i64 n.f2, .int .i64 n.f3] 48)).heap.size ≤ gb from Nat.le_trans HL.out.size HGB.out)
   clear hg hlt3
   have hps := HYY.out
   by_cases hyn : y = n
   ·have hb : ((y.f0 == n.f0) && ((y.f1 == n.f1) && ((y.f2 == n.f2) && (y.f3 == n.f3)))) = true := by rw [eq48]; exact decide_eq_true hyn
    have HRV := Aside0.mk (show r = (k : Int) by
     rw [HR.out]
     unfold placeS
     rw [posN_up cs n (posN_of cs n (k := k + 1) (i := k) (by omega) (by rw [← hps]; exact hyn) ((posN_spec cs n k).2 HP.out)) (by omega)])
    clear hps hb
    subst hyn
    go_wp2
    go_ret
    exact ⟨by rw [HRV.out]; rfl, below_then HB.out HB.out.size (below_set (below_set (below_set (below_set HW.out HGW.out) HGW.out) HGW.out) HGW.out)⟩
   ·have hb : ((y.f0 == n.f0) && ((y.f1 == n.f1) && ((y.f2 == n.f2) && (y.f3 == n.f3)))) = false := by rw [eq48]; exact decide_eq_false hyn
    have HPN := Aside0.mk (show posN cs n (k + 1) = none by
     unfold posN
     rw [HP.out]
     dsimp only
     rw [if_neg (by rw [← hps]; exact hyn)])
    clear hyn hps
    go_wp2
    go_roundw
    case rel => exact ⟨k + 1, by omega, by go_num, HPN, ⟨below_set (below_set (below_set (below_set HW.out HGW.out) HGW.out) HGW.out) HGW.out⟩⟩
    case measure => simp [intOf]; omega
  ·obtain rfl : k = N.length := by omega
   have HRV := Aside0.mk (show r = -1 by rw [HR.out]; unfold placeS; rw [HP.out])
   go_wp2
   go_ret
   exact ⟨by rw [HRV.out]; rfl, below_then HB.out HB.out.size HL.out⟩
def openS (N : List S48) (G P : List Int) : Int × Int := match confS N G P with
 | none => (-1, -1)
 | some p => p
structure OInv (N : List S48) (G P : List Int) (i : Nat) : Prop where
 t : confN (canonsS N P) G (rootsS P) (N.length - i) i = confS N G P
 ok : ∀ q, q < i → ∀ j, posN (canonsS N P) ((canonsS N P).getD q z48) q = some j → findS P (G.getD j 0) = findS P (G.getD q 0)
def Hit (N : List S48) (G P : List Int) (i k : Nat) : Prop := (canonsS N P).getD i z48 = (canonsS N P).getD k z48 ∧ findS P (G.getD i 0) ≠ findS P (G.getD k 0)
theorem OInv.next {i : Nat} (o : OInv N G P i) (hf : formB N G P = true) (hi : i < N.length) (h : ∀ j, j < i → ¬ Hit N G P i j) : OInv N G P (i + 1) := by
 have hm := (formB_parts hf).1
 have key : ∀ j, posN (canonsS N P) ((canonsS N P).getD i z48) i = some j → findS P (G.getD j 0) = findS P (G.getD i 0) := fun j hj => by
  have hji := posN_lt _ _ _ _ hj
  have he := ((posN_spec _ _ i).1 j hj).2.1
  by_cases e : findS P (G.getD i 0) = findS P (G.getD j 0)
  ·exact e.symm
  ·exact absurd ⟨he.symm, e⟩ (h j hji)
 refine ⟨?_, fun q hq j hj => ?_⟩
 ·rw [← o.t, show N.length - i = (N.length - (i + 1)) + 1 by omega]
  conv => rhs; unfold confN
  cases hp : posN (canonsS N P) ((canonsS N P).getD i z48) i with
  | none => rfl
  | some j =>
   dsimp only
   have hji := posN_lt _ _ _ _ hp
   rw [if_pos (by rw [rd_roots hm (form_G hf (by omega)), rd_roots hm (form_G hf hi)]; exact key j hp)]
 ·by_cases e : q < i
  ·exact o.ok q e j hj
  ·obtain rfl : q = i := by omega
   exact key j hj
theorem OInv.hit {i : Nat} (o : OInv N G P i) (hf : formB N G P = true) (hi : i < N.length) {k : Nat} (hk : k < i) (hno : ∀ j, j < k → ¬ Hit N G P i j) (h : Hit N G P i k) : openS N G P = (G.getD k 0, G.getD i 0) := by
 have hm := (formB_parts hf).1
 have hp : posN (canonsS N P) ((canonsS N P).getD i z48) i = some k := by
  cases hp : posN (canonsS N P) ((canonsS N P).getD i z48) i with
  | none => exact absurd h.1.symm ((posN_spec _ _ i).2 hp k hk)
  | some j =>
   obtain ⟨h1, h2, h3⟩ := (posN_spec _ _ i).1 j hp
   rcases Nat.lt_trichotomy j k with q | q | q
   ·exfalso
    have hq : posN (canonsS N P) ((canonsS N P).getD k z48) k = some j := posN_of _ _ q (by rw [h2]; exact h.1) (fun z hz => by rw [← h.1]; exact h3 z hz)
    have e1 := o.ok k hk j hq
    have e2 : findS P (G.getD i 0) = findS P (G.getD j 0) := by
     by_cases e : findS P (G.getD i 0) = findS P (G.getD j 0)
     ·exact e
     ·exact absurd ⟨h2.symm, e⟩ (hno j q)
    exact h.2 (e2.trans e1)
   ·rw [q]
   ·exact absurd h.1.symm (h3 k q)
 unfold openS
 rw [← o.t, show N.length - i = (N.length - (i + 1)) + 1 by omega]
 unfold confN
 rw [hp]
 dsimp only
 rw [if_neg (by rw [rd_roots hm (form_G hf (by omega)), rd_roots hm (form_G hf hi)]; exact fun e => h.2 e.symm)]
theorem OInv.end_ (o : OInv N G P N.length) : openS N G P = (-1, -1) := by
 have := o.t
 rw [Nat.sub_self] at this
 unfold openS
 rw [← this]; rfl
theorem put4_far {w : World} {g g' : Nat} (y0 y1 y2 y3 : Value) (h : g ≠ g') : ((((w.setCell ⟨g', 0, none⟩ y0).setCell ⟨g', 1, none⟩ y1).setCell ⟨g', 2, none⟩ y2).setCell ⟨g', 3, none⟩ y3).heap[g]? = w.heap[g]? := by
 rw [Below.heap_setCell _ _ _ _ h, Below.heap_setCell _ _ _ _ h, Below.heap_setCell _ _ _ _ h, Below.heap_setCell _ _ _ _ h]
set_option maxHeartbeats 32000000 in
set_option maxRecDepth 100000 in
theorem ropen_at (h : MemoAt w AN cN N AG cG G AP cP P) (hf : formB N G P = true) : Calls Try.prog 82 #[.agg #[.slice AN N.length cN, .slice AG G.length cG, .slice AP P.length cP]] w fun e w' => e = .returned (.tuple #[.int .i64 (openS N G P).1, .int .i64 (openS N G P).2]) ∧ Below w.heap.size w w' := by
 have hb := below_alloc (Below.refl w.heap.size w) (.cells #[.slice AN N.length cN, .slice AG G.length cG, .slice AP P.length cP] 38)
 have hmax := h.n.2.1
 have HB := Aside0.mk hb
 have HX := Aside0.mk (box_new w AN cN N AG cG G AP cP P)
 have HH := Aside0.mk (h.below hb)
 have HC := Aside0.mk (fun (W : World) (x : S48) (h : MemoAt W AN cN N AG cG G AP cP P) => rcanon_at x h)
 have HF := Aside0.mk hf
 have HI := Aside0.mk (fun (W : World) (x : Int) (h : MemoAt W AN cN N AG cG G AP cP P) => (find15_at x h.p h.pc).mono (fun e w' ⟨he, hd⟩ => (⟨he, hd.below⟩ : _ ∧ Below W.heap.size W w')))
 have HGN := Aside0.mk (formB_parts hf).2.1
 have HCS := Aside0.mk (fun k (hk : k < N.length) => show CanonS N G P (N.getD k z48) = (canonsS N P).getD k z48 by
  unfold CanonS
  rw [(formB_parts hf).1, form_N hf hk, canons_at N P hk]; rfl)
 obtain ⟨⟨r1, r2⟩, hr⟩ : ∃ r, r = openS N G P := ⟨_, rfl⟩
 rw [← hr]
 have HR := Aside0.mk hr
 clear h hb hf hr
 go_enter Try.func82, Try.ntmps82
 go_wp2
 go_loopw [4] (fun i wr => ∃ k : Nat, k ≤ N.length ∧ i = .int .i64 k ∧ Aside0 (OInv N G P k) ∧ Aside0 (Below (w.alloc (.cells #[.slice AN N.length cN, .slice AG G.length cG, .slice AP P.length cP] 38)).heap.size (w.alloc (.cells #[.slice AN N.length cN, .slice AG G.length cG, .slice AP P.length cP] 38)) wr)) (fun i _ => N.length - (intOf i).toNat)
 case atStart => exact ⟨0, Nat.zero_le _, rfl, ⟨⟨rfl, fun q hq => absurd hq (Nat.not_lt_zero _)⟩⟩, ⟨Below.refl _ _⟩⟩
 case round =>
  obtain ⟨i, hi, rfl, HO, HL⟩ := hrel
  obtain ⟨hc0, hc1, hc2⟩ := (HX.out.below HL.out).cells
  by_cases hlt : i < N.length
  ·obtain ⟨wo, hwo⟩ : ∃ wo : World, wo = wr := ⟨_, rfl⟩
   rw [← hwo] at HL hc0 hc1 hc2 ⊢
   clear hwo
   go_wp2
   go_loopw [5] (fun vk wi => ∃ k : Nat, k ≤ i ∧ vk = .int .i64 k ∧ Aside0 (∀ j, j < k → ¬ Hit N G P i j) ∧ Aside0 (Below (w.alloc (.cells #[.slice AN N.length cN, .slice AG G.length cG, .slice AP P.length cP] 38)).heap.size (w.alloc (.cells #[.slice AN N.length cN, .slice AG G.length cG, .slice AP P.length cP] 38)) wi)) (fun vk _ => i - (intOf vk).toNat)
   case atStart => exact ⟨0, Nat.zero_le _, rfl, ⟨fun j hj => absurd hj (Nat.not_lt_zero _)⟩, HL⟩
   case round =>
    obtain ⟨k, hk, rfl, HN, HM⟩ := hrel
    obtain ⟨hd0, hd1, hd2⟩ := (HX.out.below HM.out).cells
    by_cases hki : k < i
    ·obtain ⟨ad, eA, he0, he1, he2, he3⟩ := at_T48 (HH.out.below HM.out).n (i : Int) (by omega) (by omega)
     subst eA
     obtain ⟨x, hx⟩ : ∃ x, x = N.getD i z48 := ⟨_, rfl⟩
     rw [Int.toNat_natCast, show rd_T48 N (i : Int) = x from by rw [hx]; simp [rd_T48]] at he0 he1 he2 he3
     obtain ⟨cx, hcx⟩ : ∃ y, y = (canonsS N P).getD i z48 := ⟨_, rfl⟩
     have HXX := Aside0.mk (show CanonS N G P x = cx by rw [hx, hcx]; exact HCS.out i hlt)
     have HCX := Aside0.mk hcx
     clear hx hcx
     go_wp2
     have p0 := fun d os => cell_regrown hd0 d os
     have p1 := fun d os => cell_regrown hd1 d os
     have p2 := fun d os => cell_regrown hd2 d os
     have q0 := fun d os => cell_regrown he0 d os
     have q1 := fun d os => cell_regrown he1 d os
     have q2 := fun d os => cell_regrown he2 d os
     have q3 := fun d os => cell_regrown he3 d os
     have cC := fun d os => QR.bel (HC.out (Go.Sort.grow (redrawn wr d) os) x ((HH.out.below HM.out).below (below_regrown wr d os)))
     rw [HXX.out] at cC
     have hu48 := Try.underlying48
     refine QR.region_alloc 8 7 6 _ 48 (.cells #[.bool false, .int .i64 0, .int .i64 0, .int .i64 0] 48) (by first | assumption | kernel_rfl) rfl rfl rfl rfl (by decide) (fun ev w => run_alloc48 ev w _ _ _) (by kernel_rfl) (by kernel_rfl) ?_
     simp only [List.set_cons_succ, List.set_cons_zero, QR.still, List.take_succ_cons, List.take_zero, List.drop_succ_cons, List.drop_zero]
     repeat (refine QR.txt_step (fun K hK => ?_); have HK := Aside0.mk hK; clear hK; go_simp; first | (refine HK.out _ ?_; clear HK K) | (apply Exists.intro; refine ⟨fun _ => ?_, HK.out _ ?_⟩; (with_reducible exact cC _ _); clear HK K))
     refine QR.txt_nil ?_
     intro gb hgb w1 hw1 hg
     have HG0 := Aside0.mk (Nat.le_trans HM.out.size hgb)
     have HW := Aside0.mk (HM.out.trans (hw1.below.mono HM.out.size))
     have HG := Aside0.mk hg
     clear p0 p1 p2 q0 q1 q2 q3 cC hw1 hgb he0 he1 he2 he3 hd0 hd1 hd2
     obtain ⟨he0, he1, he2, he3, hf0, hf1, hf2, hf3⟩ := bk4 hg
     clear hg
     go_wp2
     generalize hw2 : (((w1.setCell ⟨gb, 0, none⟩ (.bool cx.f0)).setCell ⟨gb, 1, none⟩ (.int .i64 cx.f1)).setCell ⟨gb, 2, none⟩ (.int .i64 cx.f2)).setCell ⟨gb, 3, none⟩ (.int .i64 cx.f3) = w2
     have HM2 := Aside0.mk (show Below (w.alloc (.cells #[.slice (some ad) N.length cN, .slice AG G.length cG, .slice AP P.length cP] 38)).heap.size (w.alloc (.cells #[.slice (some ad) N.length cN, .slice AG G.length cG, .slice AP P.length cP] 38)) w2 by
      rw [← hw2]; exact below_set (below_set (below_set (below_set HW.out HG0.out) HG0.out) HG0.out) HG0.out)
     have HG2 := Aside0.mk (show w2.heap[gb]? = some (.cells #[.bool cx.f0, .int .i64 cx.f1, .int .i64 cx.f2, .int .i64 cx.f3] 48 (0, 0)) by
      rw [← hw2]; exact nput _ _ _ _ HG.out)
     clear hw2 he0 he1 he2 he3 hf0 hf1 hf2 hf3
     obtain ⟨hd0, hd1, hd2⟩ := (HX.out.below HM2.out).cells
     obtain ⟨ad', eA, he0, he1, he2, he3⟩ := at_T48 (HH.out.below HM2.out).n (k : Int) (by omega) (by omega)
     obtain rfl := Option.some.inj eA
     clear eA
     obtain ⟨y, hy⟩ : ∃ y, y = N.getD k z48 := ⟨_, rfl⟩
     rw [Int.toNat_natCast, show rd_T48 N (k : Int) = y from by rw [hy]; simp [rd_T48]] at he0 he1 he2 he3
     obtain ⟨cy, hcy⟩ : ∃ z, z = (canonsS N P).getD k z48 := ⟨_, rfl⟩
     have HYY := Aside0.mk (show CanonS N G P y = cy by rw [hy, hcy]; exact HCS.out k (by omega))
     have HCY := Aside0.mk hcy
     clear hy hcy
     have hkN : (k : Int) < N.length := by omega
     have p0 := fun d os => cell_regrown hd0 d os
     have p1 := fun d os => cell_regrown hd1 d os
     have p2 := fun d os => cell_regrown hd2 d os
     have q0 := fun d os => cell_regrown he0 d os
     have q1 := fun d os => cell_regrown he1 d os
     have q2 := fun d os => cell_regrown he2 d os
     have q3 := fun d os => cell_regrown he3 d os
     have cC := fun d os => QR.bel (HC.out (Go.Sort.grow (redrawn w2 d) os) y ((HH.out.below HM2.out).below (below_regrown w2 d os)))
     rw [HYY.out] at cC
     refine QR.region_alloc 8 7 7 _ 48 (.cells #[.bool false, .int .i64 0, .int .i64 0, .int .i64 0] 48) (by first | assumption | kernel_rfl) rfl rfl rfl rfl (by decide) (fun ev w => run_alloc48 ev w _ _ _) (by kernel_rfl) (by kernel_rfl) ?_
     simp only [List.set_cons_succ, List.set_cons_zero, QR.still, List.take_succ_cons, List.take_zero, List.drop_succ_cons, List.drop_zero]
     repeat (refine QR.txt_step (fun K hK => ?_); have HK := Aside0.mk hK; clear hK; go_simp; first | (refine HK.out _ ?_; clear HK K) | (apply Exists.intro; refine ⟨fun _ => ?_, HK.out _ ?_⟩; (with_reducible exact cC _ _); clear HK K))
     refine QR.txt_nil ?_
     intro gc hgc w3 hw3 hg
     have HG3 := Aside0.mk (Nat.le_trans HM2.out.size hgc)
     have HW3 := Aside0.mk (HM2.out.trans (hw3.below.mono HM2.out.size))
     have HGC := Aside0.mk hg
     have hbc : gb ≠ gc := by have := blk_lt HG2.out; omega
     have HGB3 := Aside0.mk (blk_below HG2.out hw3.below)
     clear p0 p1 p2 q0 q1 q2 q3 cC hw3 hgc he0 he1 he2 he3 hd0 hd1 hd2
     obtain ⟨he0, he1, he2, he3, hf0, hf1, hf2, hf3⟩ := bk4 hg
     clear hg
     go_wp2
     generalize hw4 : (((w3.setCell ⟨gc, 0, none⟩ (.bool cy.f0)).setCell ⟨gc, 1, none⟩ (.int .i64 cy.f1)).setCell ⟨gc, 2, none⟩ (.int .i64 cy.f2)).setCell ⟨gc, 3, none⟩ (.int .i64 cy.f3) = w4
     have HM4 := Aside0.mk (show Below (w.alloc (.cells #[.slice (some ad) N.length cN, .slice AG G.length cG, .slice AP P.length cP] 38)).heap.size (w.alloc (.cells #[.slice (some ad) N.length cN, .slice AG G.length cG, .slice AP P.length cP] 38)) w4 by
      rw [← hw4]; exact below_set (below_set (below_set (below_set HW3.out HG3.out) HG3.out) HG3.out) HG3.out)
     have HGC4 := Aside0.mk (show w4.heap[gc]? = some (.cells #[.bool cy.f0, .int .i64 cy.f1, .int .i64 cy.f2, .int .i64 cy.f3] 48 (0, 0)) by
      rw [← hw4]; exact nput _ _ _ _ HGC.out)
     have HGB4 := Aside0.mk (show w4.heap[gb]? = some (.cells #[.bool cx.f0, .int .i64 cx.f1, .int .i64 cx.f2, .int .i64 cx.f3] 48 (0, 0)) by
      rw [← hw4, put4_far _ _ _ _ hbc]; exact HGB3.out)
     clear hw4 he0 he1 he2 he3 hf0 hf1 hf2 hf3 hbc
     obtain ⟨hd0, hd1, hd2⟩ := (HX.out.below HM4.out).cells
     obtain ⟨b0, b1, b2, b3, _⟩ := bk4 HGB4.out
     obtain ⟨c0, c1, c2, c3, _⟩ := bk4 HGC4.out
     have p0 := fun d os => cell_regrown hd0 d os
     have p1 := fun d os => cell_regrown hd1 d os
     have p2 := fun d os => cell_regrown hd2 d os
     have q0 := fun d os => cell_regrown b0 d os
     have q1 := fun d os => cell_regrown b1 d os
     have q2 := fun d os => cell_regrown b2 d os
     have q3 := fun d os => cell_regrown b3 d os
     have s0 := fun d os => cell_regrown c0 d os
     have s1 := fun d os => cell_regrown c1 d os
     have s2 := fun d os => cell_regrown c2 d os
     have s3 := fun d os => cell_regrown c3 d os
     by_cases hxy : cx = cy
     ·have HXY := Aside0.mk hxy
      subst hxy
      obtain ⟨aG, eG, hgi⟩ := Kd.at_int (HH.out.below HM4.out).g (i : Int) (by omega) (by have := HGN.out; omega)
      subst eG
      obtain ⟨aG', eG, hgk⟩ := Kd.at_int (HH.out.below HM4.out).g (k : Int) (by omega) (by have := HGN.out; omega)
      obtain rfl := Option.some.inj eG
      clear eG
      obtain ⟨gi, hgie⟩ : ∃ x, x = rd G (i : Int) := ⟨_, rfl⟩
      obtain ⟨gk, hgke⟩ : ∃ x, x = rd G (k : Int) := ⟨_, rfl⟩
      rw [← hgie, Int.toNat_natCast] at hgi
      rw [← hgke, Int.toNat_natCast] at hgk
      obtain ⟨fi, hfi⟩ : ∃ x, x = findS P gi := ⟨_, rfl⟩
      obtain ⟨fk, hfk⟩ : ∃ x, x = findS P gk := ⟨_, rfl⟩
      have HGI := Aside0.mk (show G.getD i 0 = gi by rw [hgie, rd, Int.toNat_natCast])
      have HGK := Aside0.mk (show G.getD k 0 = gk by rw [hgke, rd, Int.toNat_natCast])
      have HFI := Aside0.mk hfi
      have HFK := Aside0.mk hfk
      have gi' := fun d os => cell_regrown hgi d os
      have gk' := fun d os => cell_regrown hgk d os
      have l0 : (0 : Int) ≤ (i : Int) := by omega
      have l1 : (i : Int) < G.length := by have := HGN.out; omega
      have l2 : (0 : Int) ≤ (k : Int) := by omega
      have l3 : (k : Int) < G.length := by have := HGN.out; omega
      have cI := fun d os => QR.bel (HI.out (Go.Sort.grow (redrawn w4 d) os) gi ((HH.out.below HM4.out).below (below_regrown w4 d os)))
      have cK := fun d os => QR.bel (HI.out (Go.Sort.grow (redrawn w4 d) os) gk ((HH.out.below HM4.out).below (below_regrown w4 d os)))
      rw [← hfi] at cI
      rw [← hfk] at cK
      clear hgie hgke hfi hfk
      by_cases hff : fi = fk
      ·have HNX := Aside0.mk (show ∀ j, j < k + 1 → ¬ Hit N G P i j from fun j hj => by
        by_cases e : j < k
        ·exact HN.out j e
        ·obtain rfl : j = k := by omega
         exact fun hh => hh.2 (by rw [HGI.out, HGK.out, ← HFI.out, ← HFK.out]; exact hff))
       have eb : (fi != fk) = false := bne_eq_false_iff_eq.mpr hff
       clear hff
       refine QR.region_all (by first | assumption | kernel_rfl) (by kernel_rfl) ?_
       repeat (refine QR.txt_step (fun K hK => ?_); have HK := Aside0.mk hK; clear hK; go_simp; first | (refine HK.out _ ?_; clear HK K) | (apply Exists.intro; refine ⟨fun _ => ?_, HK.out _ ?_⟩; (first | with_reducible exact cI _ _ | with_reducible exact cK _ _); clear HK K))
       refine QR.txt_nil ?_
       intro w5 hw5
       have HE := Aside0.mk (HM4.out.trans (hw5.below.mono HM4.out.size))
       go_wp2
       go_roundw
       case rel => exact ⟨k + 1, by omega, by go_num, HNX, HE⟩
       case measure => simp [intOf]; omega
      ·have HRV := Aside0.mk (show (r1, r2) = (gk, gi) by
        rw [HR.out, HO.out.hit HF.out hlt hki HN.out ⟨by rw [← HCX.out, ← HCY.out], by rw [HGI.out, HGK.out, ← HFI.out, ← HFK.out]; exact hff⟩, HGI.out, HGK.out])
       have eb : (fi != fk) = true := bne_iff_ne.mpr hff
       clear hff
       refine QR.region_all (by first | assumption | kernel_rfl) (by kernel_rfl) ?_
       repeat (refine QR.txt_step (fun K hK => ?_); have HK := Aside0.mk hK; clear hK; go_simp; first | (refine HK.out _ ?_; clear HK K) | (apply Exists.intro; refine ⟨fun _ => ?_, HK.out _ ?_⟩; (first | with_reducible exact cI _ _ | with_reducible exact cK _ _); clear HK K))
       refine QR.txt_nil ?_
       intro w5 hw5
       have HE := Aside0.mk (HM4.out.trans (hw5.below.mono HM4.out.size))
       obtain ⟨e0, e1⟩ := Prod.mk.inj HRV.out
       subst e0; subst e1
       go_wp2
       have hq0 := fun d os => cell_regrown (show w5.cell? ⟨w.heap.size, 1, none⟩ = _ from (HX.out.below HE.out).cells.2.1) d os
       have hq1 := fun d os => cell_regrown ((hw5.below.cell (block_lt_of_cell hgi)).trans hgi) d os
       have hq2 := fun d os => cell_regrown ((hw5.below.cell (block_lt_of_cell hgk)).trans hgk) d os
       refine QR.region_all (by first | assumption | kernel_rfl) (by kernel_rfl) ?_
       repeat (refine QR.txt_step (fun K hK => ?_); have HK := Aside0.mk hK; clear hK; go_simp; first | (refine HK.out _ ?_; clear HK K) | (apply Exists.intro; refine ⟨fun _ => ?_, HK.out _ ?_⟩; (fail); clear HK K))
       refine QR.txt_nil ?_
       intro w5r hw5r
       go_wp2
       go_ret2
       exact ⟨rfl, below_then HB.out HB.out.size (HE.out.trans (hw5r.below.mono HE.out.size))⟩
     ·have HNX := Aside0.mk (show ∀ j, j < k + 1 → ¬ Hit N G P i j from fun j hj => by
       by_cases e : j < k
       ·exact HN.out j e
       ·obtain rfl : j = k := by omega
        exact fun hh => hxy (by rw [HCX.out, HCY.out]; exact hh.1))
      have eb : ((cx.f0 == cy.f0) && ((cx.f1 == cy.f1) && ((cx.f2 == cy.f2) && (cx.f3 == cy.f3)))) = false := by rw [eq48]; exact decide_eq_false hxy
      clear hxy
      refine QR.region_all (by first | assumption | kernel_rfl) (by kernel_rfl) ?_
      repeat (refine QR.txt_step (fun K hK => ?_); have HK := Aside0.mk hK; clear hK; go_simp; first | (refine HK.out _ ?_; clear HK K) | (apply Exists.intro; refine ⟨fun _ => ?_, HK.out _ ?_⟩; (fail); clear HK K))
      refine QR.txt_nil ?_
      intro w5 hw5
      have HE := Aside0.mk (HM4.out.trans (hw5.below.mono HM4.out.size))
      go_wp2
      go_roundw
      case rel => exact ⟨k + 1, by omega, by go_num, HNX, HE⟩
      case measure => simp [intOf]; omega
    ·obtain rfl : k = i := by omega
     go_wp2
     go_roundw
     case rel => exact ⟨k + 1, by omega, by go_num, ⟨HO.out.next HF.out hlt HN.out⟩, HM⟩
     case measure => simp [intOf]; omega
  ·obtain rfl : i = N.length := by omega
   obtain ⟨e0, e1⟩ := Prod.mk.inj (HR.out.trans HO.out.end_)
   subst e0; subst e1
   go_wp2
   go_ret2
   exact ⟨rfl, below_then HB.out HB.out.size HL.out⟩
end
end Go.Proofs.Ytkidnomkfdnciaa.All
