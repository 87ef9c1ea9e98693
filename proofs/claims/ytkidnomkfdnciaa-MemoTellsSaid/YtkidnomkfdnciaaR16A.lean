/- The document's functions on sets and memos: contracts (node, Find, Canon). -/
import Derived.Test.YtkidnomkfdnciaaRef15
import Derived.Test.YtkidnomkfdnciaaJoin15
import Derived.Test.YtkidnomkfdnciaaMemo2
import Derived.Test.YtkidnomkfdnciaaBk
import Derived.Test.YtkidnomkfdnciaaQRel
import Derived.Outline
namespace Go.Proofs.Ytkidnomkfdnciaa.All
open Go.RowKit Go.Proofs.YtkidnomkfdnciaaW.PrintWords Go.Proofs.YtkidnomkfdnciaaW.PrintLast Go.Proofs.YtkidnomkfdnciaaW.PrintMore
attribute [local go_sem] QR.Oq QR.Yq QR.Cls
set_option linter.unusedVariables false
set_option linter.unusedSimpArgs false
section
variable {w : World} {A B AN AG AP : Option Addr} {c d cN cG cP : Nat} {p q : List Int} {N : List S48} {G P : List Int}
theorem may15_at (h : Kd.C (Kd.int .i64) w A p.length p) (hc : p.length ≤ c) : Calls Try.prog 31 #[.slice A p.length c] w fun e w' => e = .returned (.bool (mayB p)) ∧ Drawn0 w w' :=
  roadbookref15_May.calls (p.length + 1) A c p _ w h hc (may15_k p _ h.2.1 (by omega))
theorem find15_at (a : Int) (h : Kd.C (Kd.int .i64) w A p.length p) (hc : p.length ≤ c) : Calls Try.prog 32 #[.slice A p.length c, .int .i64 a] w fun e w' => e = .returned (.int .i64 (findS p a)) ∧ Drawn0 w w' :=
  roadbookref15_Find.calls (p.length + 2) A c p a _ w h hc (find15_k p a _ h.2.1 (by omega))
theorem same15_at (h : Kd.C (Kd.int .i64) w A p.length p) (hc : p.length ≤ c) (h' : Kd.C (Kd.int .i64) w B q.length q) (hd : q.length ≤ d) (hp : p.length ≤ 4611686018427387904) (hq : q.length ≤ 4611686018427387904) :
    Calls Try.prog 37 #[.slice A p.length c, .slice B q.length d] w fun e w' => e = .returned (.bool (sameB p q)) ∧ Below w.heap.size w w' :=
  roadbookref15_Same.calls (2 * p.length + 2 * q.length + 3) A c p B d q _ w h hc h' hd (same15_k p q _ hp hq (by omega) (by omega))
/-! ### Find -/
set_option maxHeartbeats 4000000 in
set_option maxRecDepth 100000 in
theorem rfind_at (g : Int) (h : MemoAt w AN cN N AG cG G AP cP P) : Calls Try.prog 53 #[.agg #[.slice AN N.length cN, .slice AG G.length cG, .slice AP P.length cP], .int .i64 g] w fun e w' => e = .returned (.int .i64 (findS P g)) ∧ Below w.heap.size w w' := by
  have hb := below_alloc (Below.refl w.heap.size w) (.cells #[.slice AN N.length cN, .slice AG G.length cG, .slice AP P.length cP] 38)
  have HC := Aside0.mk (find15_at g (h.below hb).p (h.below hb).pc)
  have HB := Aside0.mk hb
  clear h hb
  go_enter Try.func53, Try.ntmps53
  go_wp2_with (go_at_call 32; refine HC.out.mono ?_; rintro e w1 ⟨rfl, hd⟩; have HD := Aside0.mk hd.below; clear hd)
  go_ret
  exact ⟨rfl, below_then HB.out HB.out.size HD.out⟩
/-! ### node -/
set_option maxHeartbeats 8000000 in
set_option maxRecDepth 100000 in
theorem rnode_at (n : S48) (h : MemoAt w AN cN N AG cG G AP cP P) : Calls Try.prog 81 #[.agg #[.slice AN N.length cN, .slice AG G.length cG, .slice AP P.length cP], .agg #[.bool n.f0, .int .i64 n.f1, .int .i64 n.f2, .int .i64 n.f3]] w fun e w' => e = .returned (.bool (nodeB P n)) ∧ Below w.heap.size w w' := by
  obtain ⟨j, o, a, b⟩ := n
  dsimp only
  have hm := h.p.2.1
  clear h
  unfold nodeB inB
  dsimp only
  cases j with
  | true =>
    go_enter Try.func81, Try.ntmps81
    go_wp2
    all_goals (go_ret; refine ⟨?_, below_alloc (below_alloc (Below.refl _ _) _) _⟩; first | rfl | (congr 2; first | (simp; omega) | (simp [*]; done) | (by_cases hb : b = 0 <;> simp [hb] <;> omega)) | (simp [*]; done))
  | false =>
    go_enter Try.func81, Try.ntmps81
    go_wp2
    all_goals (go_ret; refine ⟨?_, below_alloc (below_alloc (Below.refl _ _) _) _⟩; first | rfl | (congr 2; first | (simp; omega) | (simp [*]; done) | (by_cases hb : b = 0 <;> simp [hb] <;> omega)) | (simp [*]; done))
/-! ### Canon -/
theorem nput {w : World} {g : Nat} {t : TypeId} {x0 x1 x2 x3 : Value} (y0 y1 y2 y3 : Value) (h : w.heap[g]? = some (.cells #[x0, x1, x2, x3] t (0, 0))) : ((((w.setCell ⟨g, 0, none⟩ y0).setCell ⟨g, 1, none⟩ y1).setCell ⟨g, 2, none⟩ y2).setCell ⟨g, 3, none⟩ y3).heap[g]? = some (.cells #[y0, y1, y2, y3] t (0, 0)) :=
  blk_put (blk_put (blk_put (blk_put h 0 y0 rfl) 1 y1 rfl) 2 y2 rfl) 3 y3 rfl
theorem box3_new (w : World) (AN : Option Addr) (cN : Nat) (N : List S48) (AG : Option Addr) (cG : Nat) (G : List Int) (AP : Option Addr) (cP : Nat) (P : List Int) (o o' : Obj) :
    MBox (((w.alloc (.cells #[.slice AN N.length cN, .slice AG G.length cG, .slice AP P.length cP] 38)).alloc o).alloc o') w.heap.size AN cN N AG cG G AP cP P ∧
    (((w.alloc (.cells #[.slice AN N.length cN, .slice AG G.length cG, .slice AP P.length cP] 38)).alloc o).alloc o').heap[w.heap.size + 1]? = some o ∧
    (((w.alloc (.cells #[.slice AN N.length cN, .slice AG G.length cG, .slice AP P.length cP] 38)).alloc o).alloc o').heap[w.heap.size + 2]? = some o' ∧
    Below w.heap.size w (((w.alloc (.cells #[.slice AN N.length cN, .slice AG G.length cG, .slice AP P.length cP] 38)).alloc o).alloc o') := by
  refine ⟨(box_new w AN cN N AG cG G AP cP P).below (below_alloc (below_alloc (Below.refl _ _) _) _), ?_, ?_, below_alloc (below_alloc (below_alloc (Below.refl _ _) _) _) _⟩
  · have h := heap_alloc_new (w.alloc (.cells #[.slice AN N.length cN, .slice AG G.length cG, .slice AP P.length cP] 38)) o
    rw [alloc_size1] at h
    exact blk_below h (below_alloc (Below.refl _ _) o')
  · have h := heap_alloc_new ((w.alloc (.cells #[.slice AN N.length cN, .slice AG G.length cG, .slice AP P.length cP] 38)).alloc o) o'
    rw [rfl_size] at h
    exact h
theorem below_put4 {w W : World} {g : Nat} {y0 y1 y2 y3 : Value} (h : Below w.heap.size w W) (hg : w.heap.size ≤ g) : Below w.heap.size w ((((W.setCell ⟨g, 0, none⟩ y0).setCell ⟨g, 1, none⟩ y1).setCell ⟨g, 2, none⟩ y2).setCell ⟨g, 3, none⟩ y3) :=
  below_set (below_set (below_set (below_set h hg) hg) hg) hg
set_option maxHeartbeats 16000000 in
set_option maxRecDepth 100000 in
theorem rcanon_no (n : S48) (h : MemoAt w AN cN N AG cG G AP cP P) (hno : nodeB P n = false ∨ nodeB P n = true ∧ (mayB P = false ∨ mayB P = true ∧ n.f0 = false)) : Calls Try.prog 54 #[.agg #[.slice AN N.length cN, .slice AG G.length cG, .slice AP P.length cP], .agg #[.bool n.f0, .int .i64 n.f1, .int .i64 n.f2, .int .i64 n.f3]] w fun e w' => e = .returned (.agg #[.bool n.f0, .int .i64 n.f1, .int .i64 n.f2, .int .i64 n.f3]) ∧ Below w.heap.size w w' := by
  obtain ⟨hx, hy, hz, hb⟩ := box3_new w AN cN N AG cG G AP cP P (.cells #[.bool n.f0, .int .i64 n.f1, .int .i64 n.f2, .int .i64 n.f3] 48) (.cells #[.bool false, .int .i64 0, .int .i64 0, .int .i64 0] 48)
  have HB := Aside0.mk hb
  have HX := Aside0.mk hx
  have HY := Aside0.mk hy
  have HZ := Aside0.mk hz
  have HN := Aside0.mk (rnode_at n (h.below hb))
  have HM := Aside0.mk (fun (W : World) (h : MemoAt W AN cN N AG cG G AP cP P) => may15_at h.p h.pc)
  have HH := Aside0.mk (h.below hb)
  have HG := Aside0.mk (show w.heap.size ≤ w.heap.size + 2 by omega)
  obtain ⟨j, o, a, b⟩ := n
  clear h hb hx hy hz
  obtain ⟨vm, hvm⟩ : ∃ v, v = mayB P := ⟨_, rfl⟩
  rw [← hvm] at HM hno
  rcases hno with h1 | ⟨h1, h2 | ⟨h2, h3⟩⟩
  · rw [h1] at HN; clear h1 hvm; dsimp only at *
    go_enter Try.func54, Try.ntmps54
    go_wp2_with (first | (go_at_call 81; refine HN.out.mono ?_; rintro e w1 ⟨rfl, hb1⟩; have HB1 := Aside0.mk hb1; obtain ⟨ha0, ha1, ha2⟩ := (HX.out.below hb1).cells; clear hb1) | (go_at_call 31; refine (HM.out _ (HH.out.below HB1.out)).mono ?_; rintro e w2 ⟨rfl, hd⟩; have HB2 := Aside0.mk (HB1.out.trans (hd.below.mono HB1.out.size)); obtain ⟨hc0, hc1, hc2, hc3, hf0, hf1, hf2, hf3⟩ := bk4 (blk_below HY.out HB2.out); obtain ⟨he0, he1, he2, he3, hg0, hg1, hg2, hg3⟩ := bk4 (blk_below HZ.out HB2.out); clear hd))
    exact bodyPost_ret (results_cell_row rfl _ _ (w.heap.size + 2) 48 #[.bool _, .int .i64 o, .int .i64 a, .int .i64 b] (0, 0) _ rfl (nput _ _ _ _ (blk_below HZ.out HB2.out)) Try.underlying48 rfl (by kernel_rfl)) rfl ⟨rfl, below_put4 (below_then HB.out HB.out.size HB2.out) HG.out⟩
  · rw [h1] at HN; subst h2; clear h1 hvm; dsimp only at *
    go_enter Try.func54, Try.ntmps54
    go_wp2_with (first | (go_at_call 81; refine HN.out.mono ?_; rintro e w1 ⟨rfl, hb1⟩; have HB1 := Aside0.mk hb1; obtain ⟨ha0, ha1, ha2⟩ := (HX.out.below hb1).cells; clear hb1) | (go_at_call 31; refine (HM.out _ (HH.out.below HB1.out)).mono ?_; rintro e w2 ⟨rfl, hd⟩; have HB2 := Aside0.mk (HB1.out.trans (hd.below.mono HB1.out.size)); obtain ⟨hc0, hc1, hc2, hc3, hf0, hf1, hf2, hf3⟩ := bk4 (blk_below HY.out HB2.out); obtain ⟨he0, he1, he2, he3, hg0, hg1, hg2, hg3⟩ := bk4 (blk_below HZ.out HB2.out); clear hd))
    exact bodyPost_ret (results_cell_row rfl _ _ (w.heap.size + 2) 48 #[.bool _, .int .i64 o, .int .i64 a, .int .i64 b] (0, 0) _ rfl (nput _ _ _ _ (blk_below HZ.out HB2.out)) Try.underlying48 rfl (by kernel_rfl)) rfl ⟨rfl, below_put4 (below_then HB.out HB.out.size HB2.out) HG.out⟩
  · rw [h1] at HN; subst h2; clear h1 hvm; dsimp only at *; subst h3
    go_enter Try.func54, Try.ntmps54
    go_wp2_with (first | (go_at_call 81; refine HN.out.mono ?_; rintro e w1 ⟨rfl, hb1⟩; have HB1 := Aside0.mk hb1; obtain ⟨ha0, ha1, ha2⟩ := (HX.out.below hb1).cells; clear hb1) | (go_at_call 31; refine (HM.out _ (HH.out.below HB1.out)).mono ?_; rintro e w2 ⟨rfl, hd⟩; have HB2 := Aside0.mk (HB1.out.trans (hd.below.mono HB1.out.size)); obtain ⟨hc0, hc1, hc2, hc3, hf0, hf1, hf2, hf3⟩ := bk4 (blk_below HY.out HB2.out); obtain ⟨he0, he1, he2, he3, hg0, hg1, hg2, hg3⟩ := bk4 (blk_below HZ.out HB2.out); clear hd))
    exact bodyPost_ret (results_cell_row rfl _ _ (w.heap.size + 2) 48 #[.bool _, .int .i64 o, .int .i64 a, .int .i64 b] (0, 0) _ rfl (nput _ _ _ _ (blk_below HZ.out HB2.out)) Try.underlying48 rfl (by kernel_rfl)) rfl ⟨rfl, below_put4 (below_then HB.out HB.out.size HB2.out) HG.out⟩
set_option maxHeartbeats 16000000 in
set_option maxRecDepth 100000 in
theorem rcanon_yes (o a b : Int) (h : MemoAt w AN cN N AG cG G AP cP P) (h1 : nodeB P ⟨true, o, a, b⟩ = true) (h2 : mayB P = true) : Calls Try.prog 54 #[.agg #[.slice AN N.length cN, .slice AG G.length cG, .slice AP P.length cP], .agg #[.bool true, .int .i64 o, .int .i64 a, .int .i64 b]] w fun e w' => e = .returned (.agg #[.bool true, .int .i64 0, .int .i64 (findS P a), .int .i64 (findS P b)]) ∧ Below w.heap.size w w' := by
  obtain ⟨hx, hy, hz, hb⟩ := box3_new w AN cN N AG cG G AP cP P (.cells #[.bool true, .int .i64 o, .int .i64 a, .int .i64 b] 48) (.cells #[.bool false, .int .i64 0, .int .i64 0, .int .i64 0] 48)
  have HB := Aside0.mk hb
  have HX := Aside0.mk hx
  have HY := Aside0.mk hy
  have HZ := Aside0.mk hz
  have HN := Aside0.mk (rnode_at ⟨true, o, a, b⟩ (h.below hb))
  have HM := Aside0.mk (fun (W : World) (h : MemoAt W AN cN N AG cG G AP cP P) => may15_at h.p h.pc)
  have HH := Aside0.mk (h.below hb)
  have HG := Aside0.mk (show w.heap.size ≤ w.heap.size + 2 by omega)
  have HF := Aside0.mk (fun (W : World) (x : Int) (h : MemoAt W AN cN N AG cG G AP cP P) => (find15_at x h.p h.pc).mono (fun e w' ⟨he, hd⟩ => (⟨he, hd.below⟩ : _ ∧ Below W.heap.size W w')))
  rw [h1] at HN
  rw [h2] at HM
  clear h hb hx hy hz h1 h2
  obtain ⟨fa, hfa⟩ : ∃ x, x = findS P a := ⟨_, rfl⟩
  obtain ⟨fb, hfb⟩ : ∃ x, x = findS P b := ⟨_, rfl⟩
  rw [← hfa, ← hfb]
  have HFA := Aside0.mk hfa
  have HFB := Aside0.mk hfb
  clear hfa hfb
  go_enter Try.func54, Try.ntmps54
  go_wp2_with (first | (go_at_call 81; refine HN.out.mono ?_; rintro e w1 ⟨rfl, hb1⟩; have HB1 := Aside0.mk hb1; obtain ⟨ha0, ha1, ha2⟩ := (HX.out.below hb1).cells; clear hb1) | (go_at_call 31; refine (HM.out _ (HH.out.below HB1.out)).mono ?_; rintro e w2 ⟨rfl, hd⟩; have HB2 := Aside0.mk (HB1.out.trans (hd.below.mono HB1.out.size)); obtain ⟨hc0, hc1, hc2, hc3, hf0, hf1, hf2, hf3⟩ := bk4 (blk_below HY.out HB2.out); clear hd))
  obtain ⟨hk0, hk1, hk2⟩ := (HX.out.below HB2.out).cells
  have q2 := fun d os => cell_regrown hk2 d os
  have p2 := fun d os => cell_regrown hc2 d os
  have p3 := fun d os => cell_regrown hc3 d os
  have cA := fun d os => QR.bel (HF.out (Go.Sort.grow (redrawn w2 d) os) a ((HH.out.below HB2.out).below (below_regrown w2 d os)))
  have cB := fun d os => QR.bel (HF.out (Go.Sort.grow (redrawn w2 d) os) b ((HH.out.below HB2.out).below (below_regrown w2 d os)))
  rw [← HFA.out] at cA
  rw [← HFB.out] at cB

  refine QR.region 11 (by first | assumption | kernel_rfl) (by kernel_rfl) ?_
  simp only [List.take_succ_cons, List.take_zero, List.drop_succ_cons, List.drop_zero]
  have hu48 := Try.underlying48
  repeat (refine QR.txt_step (fun K hK => ?_); go_simp; first | (refine hK _ ?_; clear hK K) | (apply Exists.intro; refine ⟨fun _ => ?_, hK _ ?_⟩; (first | with_reducible exact cA _ _ | with_reducible exact cB _ _); clear hK K))
  refine QR.txt_nil ?_
  intro _ hw'
  obtain ⟨⟨dq, osq⟩, hw''⟩ := hw'
  subst hw''
  have HB3 := Aside0.mk (HB2.out.trans ((below_regrown w2 dq osq).mono HB2.out.size))
  obtain ⟨w3, hw3⟩ : ∃ W, W = Go.Sort.grow (redrawn w2 dq) osq := ⟨_, rfl⟩
  rw [← hw3] at HB3 ⊢
  obtain ⟨he0, he1, he2, he3, hg0, hg1, hg2, hg3⟩ := bk4 (blk_below HZ.out HB3.out)
  clear hw3 q2 p2 p3 cA cB
  go_wp2
  exact bodyPost_ret (results_cell_row rfl _ _ (w.heap.size + 2) 48 #[.bool true, .int .i64 0, .int .i64 fa, .int .i64 fb] (0, 0) _ rfl (nput _ _ _ _ (blk_below HZ.out HB3.out)) Try.underlying48 rfl (by kernel_rfl)) rfl ⟨rfl, below_put4 (below_then HB.out HB.out.size HB3.out) HG.out⟩
theorem rcanon_at (n : S48) (h : MemoAt w AN cN N AG cG G AP cP P) : Calls Try.prog 54 #[.agg #[.slice AN N.length cN, .slice AG G.length cG, .slice AP P.length cP], .agg #[.bool n.f0, .int .i64 n.f1, .int .i64 n.f2, .int .i64 n.f3]] w fun e w' => e = .returned (.agg #[.bool (CanonS N G P n).f0, .int .i64 (CanonS N G P n).f1, .int .i64 (CanonS N G P n).f2, .int .i64 (CanonS N G P n).f3]) ∧ Below w.heap.size w w' := by
  unfold CanonS
  cases hn : nodeB P n with
  | false => rw [Bool.and_false, if_neg (by decide)]; exact rcanon_no n h (.inl hn)
  | true =>
    cases hm : mayB P with
    | false => rw [Bool.false_and, if_neg (by decide)]; exact rcanon_no n h (.inr ⟨hn, .inl hm⟩)
    | true =>
      rw [Bool.and_self, if_pos rfl]
      cases hj : n.f0 with
      | false =>
        have := rcanon_no n h (.inr ⟨hn, .inr ⟨hm, hj⟩⟩)
        rw [canon_not _ hj]
        rw [hj] at this ⊢
        exact this
      | true =>
        have h1 := (node_join hn hj).1
        have e : (⟨true, n.f1, n.f2, n.f3⟩ : S48) = n := by rw [← hj]
        have hy := rcanon_yes n.f1 n.f2 n.f3 h (by rw [e]; exact hn) hm
        rw [canon_join hm hn hj, h1]
        rw [h1] at hy
        exact hy
end
end Go.Proofs.Ytkidnomkfdnciaa.All
