/- Functions of the program as plain Lean functions, and proofs that the calls do what these say; written for this claim by a program of the session (wip/tools/mkprint.py), checked by Lean. -/
import Derived.Test.YtkidnomkfdnciaaSets2
import Derived.Test.YtkidnomkfdnciaaAllx0
import Derived.Test.YtkidnomkfdnciaaAllx4
import Derived.Test.YtkidnomkfdnciaaAllx9
import Derived.Test.YtkidnomkfdnciaaAllx10
import Derived.Test.YtkidnomkfdnciaaAllx11
import Derived.Test.YtkidnomkfdnciaaAllx12
import Derived.Test.YtkidnomkfdnciaaAllx17
namespace Go.Proofs.Ytkidnomkfdnciaa.All
open Go.RowKit Go.Proofs.YtkidnomkfdnciaaW.PrintWords Go.Proofs.YtkidnomkfdnciaaW.PrintLast Go.Proofs.YtkidnomkfdnciaaW.PrintMore
attribute [local go_sem] max2_int min2_int max_two min_two max_three min_three max_four min_four   -- for this text's walks alone
set_option linter.unusedVariables false
set_option linter.unusedSimpArgs false

/-! ### memo_Merge: function 40 -/
/- stands on memo_May.f, memo_is.f, memo_own.f, memo_Find.f, memo_Look.f, sets_Join.f -/
/-- Merging goes on till no two groups of one node are of two sets. -/
def mergeO (N : List S48) (G : List Int) : Nat → List Int → Int → Int → Option (List Int)
 | 0, _, _, _ => none
 | k + 1, P, x, y => match confS N G (joinS P x y).1 with
  | none => some (joinS P x y).1
  | some (a, b) => mergeO N G k (joinS P x y).1 a b
theorem confN_some {cs : List S48} {G R : List Int} : ∀ {d k : Nat} {x y : Int}, confN cs G R d k = some (x, y) → ∃ i j, i < k + d ∧ j < k + d ∧ x = G.getD i 0 ∧ y = G.getD j 0
 | 0, k, x, y, h => by cases h
 | d + 1, k, x, y, h => by
  unfold confN at h
  cases hp : posN cs (cs.getD k z48) k with
  | none =>
   rw [hp] at h
   obtain ⟨i, j, h1, h2, h3⟩ := confN_some (d := d) (k := k + 1) h
   exact ⟨i, j, by omega, by omega, h3⟩
  | some i =>
   rw [hp] at h
   dsimp only at h
   split at h
   ·obtain ⟨i, j, h1, h2, h3⟩ := confN_some (d := d) (k := k + 1) h
    exact ⟨i, j, by omega, by omega, h3⟩
   ·obtain ⟨rfl, rfl⟩ := Prod.mk.inj (Option.some.inj h)
    have := posN_lt _ _ _ _ hp
    exact ⟨i, k, by omega, by omega, rfl, rfl⟩
theorem confS_in {N : List S48} {G P : List Int} (hf : formB N G P = true) {x y : Int} (h : confS N G P = some (x, y)) : inB P x = true ∧ inB P y = true := by
 obtain ⟨hm, hGN, hNl, hGi, hNi⟩ := formB_parts hf
 obtain ⟨i, j, h1, h2, rfl, rfl⟩ := confN_some h
 exact ⟨hGi i (by omega), hGi j (by omega)⟩
theorem inB_joined {P : List Int} {x y : Int} (hm : mayB P = true) (hx : inB P x = true) (hy : inB P y = true) : Joined P x y := by
 simp only [inB, Bool.and_eq_true, decide_eq_true_eq] at hx hy
 exact ⟨hm, hx.1, hx.2, hy.1, hy.2⟩
theorem form_same {N : List S48} {G P Q : List Int} (hf : formB N G P = true) (hm : mayB Q = true) (hl : Q.length = P.length) : formB N G Q = true := by
 unfold formB at *
 simp only [Bool.and_eq_true] at hf ⊢
 refine ⟨hm, hf.2.1, hf.2.2.1, ?_, ?_⟩
 ·have h := hf.2.2.2.1
  have : (fun g => !inB Q g) = (fun g => !inB P g) := by funext g; rw [inB_of_len hl]
  rw [this]; exact h
 ·have h := hf.2.2.2.2
  have : (fun n => !nodeB Q n) = (fun n => !nodeB P n) := by funext n; unfold nodeB; rw [inB_of_len hl, inB_of_len hl]
  rw [this]; exact h
/-- What holds at the head of the loop. -/
structure MergeInv (w W wr : World) (b9 b10 : Nat) (v0 v1 v2 : Value) (N : List S48) (G Q : List Int) (x y : Int) : Prop where
 bel : Below w.heap.size w wr
 two : wr.heap[b10]? = some (.cells #[.int .i64 x, .int .i64 y] 89 (0, 0))
 out : wr.heap[b9]? = some (.cells #[v0, v1, v2] 38 (0, 0))
 n : Kd.R k48 48 wr w.heap.size (fun _ => True) v0 N
 g : Kd.R (Kd.int .i64) 3 wr w.heap.size (fun k => some k ≠ v2.ownBlock) v1 G
 p : Kd.R (Kd.int .i64) 3 wr w.heap.size (fun k => some k ≠ v1.ownBlock) v2 Q
 b0 : w.heap.size ≤ b9
 b1 : w.heap.size ≤ b10
 b2 : b9 < b10
 old : ∀ k, k < b9 → wr.heap[k]? = W.heap[k]?
theorem MergeInv.below {w W wr w' : World} {b9 b10 : Nat} {v0 v1 v2 : Value} {N : List S48} {G Q : List Int} {x y : Int} (h : MergeInv w W wr b9 b10 v0 v1 v2 N G Q x y) (hb : Below wr.heap.size wr w') : MergeInv w W w' b9 b10 v0 v1 v2 N G Q x y :=
 ⟨below_then h.bel h.bel.size hb, (hb.block _ (blk_lt h.two)).trans h.two, (hb.block _ (blk_lt h.out)).trans h.out, Kd.R_below h.n hb, Kd.R_below h.g hb, Kd.R_below h.p hb, h.b0, h.b1, h.b2, fun k hk => (hb.block k (Nat.lt_trans hk (blk_lt h.out))).trans (h.old k hk)⟩
theorem MergeInv.join {w W wr w1 : World} {b9 b10 : Nat} {v0 v1 v2 v3 : Value} {N : List S48} {G Q Q' : List Int} {x y : Int} (h : MergeInv w W wr b9 b10 v0 v1 v2 N G Q x y) (hb : Below wr.heap.size wr w1)
  (hr : Kd.R (Kd.int .i64) 3 w1 wr.heap.size (fun _ => True) v3 Q') : MergeInv w W (w1.setCell ⟨b9, 2, none⟩ v3) b9 b10 v0 v1 v3 N G Q' x y := by
 have h1 := h.below hb
 have hs := h.bel.size
 refine ⟨below_set h1.bel h.b0, blk_far h1.two (Nat.ne_of_gt h.b2) _, (blk_put h1.out 2 v3 rfl), Kd.R_set h1.n h1.out (by decide) _ _, Kd.R_set ?_ h1.out (by decide) _ _, Kd.R_set ?_ h1.out (by decide) _ _, h.b0, h.b1, h.b2, fun k hk => (Below.heap_setCell _ _ _ k (Nat.ne_of_lt hk)).trans (h1.old k hk)⟩
 ·refine Kd.R_mono (Kd.R_below (Kd.R_bound h.g) hb) (fun k hk e => ?_)
  have := Kd.R_base hr k e.symm
  have := hk.2.2.1
  omega
 ·refine Kd.R_mono (Kd.R_lower (Kd.R_bound hr) hs) (fun k hk e => ?_)
  have := Kd.R_lt h.g k e.symm
  have := hk.2.1
  omega
theorem MergeInv.first {w W wr w2 : World} {b9 b10 : Nat} {v0 v1 v2 : Value} {N : List S48} {G Q : List Int} {x y x' y' : Int} (h : MergeInv w W wr b9 b10 v0 v1 v2 N G Q x y) (hb : Below wr.heap.size wr w2) :
  MergeInv w W (((w2.setCell ⟨b10, 0, none⟩ (.int .i64 x')).setCell ⟨b10, 1, none⟩ (.int .i64 y')).alloc (.cells #[.int .i64 x', .int .i64 y'] 89)) b9 w2.heap.size v0 v1 v2 N G Q x' y' := by
 have hsz : ((w2.setCell ⟨b10, 0, none⟩ (.int .i64 x')).setCell ⟨b10, 1, none⟩ (.int .i64 y')).heap.size = w2.heap.size := by simp
 rw [← hsz]
 have h1 := h.below hb
 have t1 := blk_put h1.two 0 (.int .i64 x') rfl
 have o2 := blk_far (p := ⟨b10, 1, none⟩) (blk_far (p := ⟨b10, 0, none⟩) h1.out (Nat.ne_of_lt h.b2) (.int .i64 x')) (Nat.ne_of_lt h.b2) (.int .i64 y')
 have hB : Below w.heap.size w ((w2.setCell ⟨b10, 0, none⟩ (.int .i64 x')).setCell ⟨b10, 1, none⟩ (.int .i64 y')) := below_set (below_set h1.bel h.b1) h.b1
 exact ⟨below_alloc hB _, heap_alloc_new _ _, ((below_alloc (Below.refl _ _) _).block _ (blk_lt o2)).trans o2,
  Kd.R_below (Kd.R_set (Kd.R_set h1.n h1.two (by decide) _ _) t1 (by decide) _ _) (below_alloc (Below.refl _ _) _),
  Kd.R_below (Kd.R_set (Kd.R_set h1.g h1.two (by decide) _ _) t1 (by decide) _ _) (below_alloc (Below.refl _ _) _),
  Kd.R_below (Kd.R_set (Kd.R_set h1.p h1.two (by decide) _ _) t1 (by decide) _ _) (below_alloc (Below.refl _ _) _), h.b0, hB.size, blk_lt o2, fun k hk => ((below_alloc (Below.refl _ _) _).block _ (Nat.lt_trans hk (blk_lt o2))).trans ((Below.heap_setCell _ _ _ k (Nat.ne_of_lt (Nat.lt_trans hk h.b2))).trans ((Below.heap_setCell _ _ _ k (Nat.ne_of_lt (Nat.lt_trans hk h.b2))).trans (h1.old k hk)))⟩
def lim3 (N : List S48) (G P : List Int) : Bool := limN N && (limI G && limI P)
theorem own_some (N : List S48) (G P : List Int) (k : Nat) (h : lim3 N G P = true) : memo_own.f k N G P = some (N, G, P) := by
 unfold lim3 at h
 simp only [Bool.and_eq_true] at h
 unfold memo_own.f api_Node_94.f slices_Clone_int_int.f
 rw [if_pos h.1, if_pos h.2.1, if_pos h.2.2]
 rfl
theorem form_lim {N : List S48} {G P : List Int} (h : formB N G P = true) : lim3 N G P = true := by
 obtain ⟨hm, hGN, hNl, hGi, hNi⟩ := formB_parts h
 have := mayB_len hm
 unfold lim3 limN limI
 simp only [Bool.and_eq_true, decide_eq_true_eq]
 omega
theorem own_calls {w : World} {AN AG AP : Option Addr} {cN cG cP : Nat} {N : List S48} {G P : List Int} (h : MemoAt w AN cN N AG cG G AP cP P) (hl : lim3 N G P = true) :
  Calls Try.prog 75 #[.agg #[.slice AN N.length cN, .slice AG G.length cG, .slice AP P.length cP]] w fun e w' => ∃ v0_ v1_ v2_ : Value, e = .returned (.agg #[v0_, v1_, v2_]) ∧ Kd.R k48 48 w' w.heap.size (fun _ => True) v0_ N ∧ Kd.R (Kd.int .i64) 3 w' w.heap.size (fun k_ => some k_ ≠ (v2_ : Value).ownBlock) v1_ G ∧ Kd.R (Kd.int .i64) 3 w' w.heap.size (fun k_ => some k_ ≠ (v1_ : Value).ownBlock) v2_ P ∧ Below w.heap.size w w' :=
 memo_own.calls 0 AN cN N AG cG G AP cP P _ _ _ w h.n h.nc h.g h.gc h.p h.pc (own_some N G P 0 hl)
theorem res_new (w : World) (AN : Option Addr) (cN : Nat) (N : List S48) (AG : Option Addr) (cG : Nat) (G : List Int) (AP : Option Addr) (cP : Nat) (P : List Int) :
  MBox ((w.alloc (.cells #[.slice AN N.length cN, .slice AG G.length cG, .slice AP P.length cP] 38)).alloc (.cells #[.slice none 0 0, .slice none 0 0, .slice none 0 0] 38)) w.heap.size AN cN N AG cG G AP cP P ∧
  ((w.alloc (.cells #[.slice AN N.length cN, .slice AG G.length cG, .slice AP P.length cP] 38)).alloc (.cells #[.slice none 0 0, .slice none 0 0, .slice none 0 0] 38)).heap[w.heap.size + 1]? = some (.cells #[.slice none 0 0, .slice none 0 0, .slice none 0 0] 38 (0, 0)) ∧
  Below w.heap.size w ((w.alloc (.cells #[.slice AN N.length cN, .slice AG G.length cG, .slice AP P.length cP] 38)).alloc (.cells #[.slice none 0 0, .slice none 0 0, .slice none 0 0] 38)) := by
 refine ⟨(box_new w AN cN N AG cG G AP cP P).below (below_alloc (Below.refl _ _) _), ?_, below_alloc (below_alloc (Below.refl _ _) _) _⟩
 have := heap_alloc_new (w.alloc (.cells #[.slice AN N.length cN, .slice AG G.length cG, .slice AP P.length cP] 38)) (.cells #[.slice none 0 0, .slice none 0 0, .slice none 0 0] 38)
 rw [alloc_size1 w] at this
 exact this
/-- The result's cells are written at last. -/
theorem res_put {w W5 : World} {b6 : Nat} {x0 x1 x2 v0 v1 v2 : Value} {N : List S48} {G Q : List Int} (h6 : W5.heap[b6]? = some (.cells #[x0, x1, x2] 38 (0, 0))) (hb : w.heap.size ≤ b6) (bel : Below w.heap.size w W5)
  (n : Kd.R k48 48 W5 w.heap.size (fun _ => True) v0 N) (g : Kd.R (Kd.int .i64) 3 W5 w.heap.size (fun k => some k ≠ v2.ownBlock) v1 G) (p : Kd.R (Kd.int .i64) 3 W5 w.heap.size (fun k => some k ≠ v1.ownBlock) v2 Q) :
  Kd.R k48 48 (((W5.setCell ⟨b6, 0, none⟩ v0).setCell ⟨b6, 1, none⟩ v1).setCell ⟨b6, 2, none⟩ v2) w.heap.size (fun _ => True) v0 N ∧ Kd.R (Kd.int .i64) 3 (((W5.setCell ⟨b6, 0, none⟩ v0).setCell ⟨b6, 1, none⟩ v1).setCell ⟨b6, 2, none⟩ v2) w.heap.size (fun k => some k ≠ v2.ownBlock) v1 G ∧ Kd.R (Kd.int .i64) 3 (((W5.setCell ⟨b6, 0, none⟩ v0).setCell ⟨b6, 1, none⟩ v1).setCell ⟨b6, 2, none⟩ v2) w.heap.size (fun k => some k ≠ v1.ownBlock) v2 Q ∧ Below w.heap.size w (((W5.setCell ⟨b6, 0, none⟩ v0).setCell ⟨b6, 1, none⟩ v1).setCell ⟨b6, 2, none⟩ v2) := by
 have t1 := blk_put h6 0 v0 rfl
 have t2 := blk_put t1 1 v1 rfl
 exact ⟨Kd.R_set (Kd.R_set (Kd.R_set n h6 (by decide) _ _) t1 (by decide) _ _) t2 (by decide) _ _, Kd.R_set (Kd.R_set (Kd.R_set g h6 (by decide) _ _) t1 (by decide) _ _) t2 (by decide) _ _, Kd.R_set (Kd.R_set (Kd.R_set p h6 (by decide) _ _) t1 (by decide) _ _) t2 (by decide) _ _, below_set (below_set (below_set bel hb) hb) hb⟩
set_option maxHeartbeats 16000000 in
set_option maxRecDepth 100000 in
theorem Merge_yes (k : Nat) {w : World} {AN AG AP : Option Addr} {cN cG cP : Nat} {N : List S48} {G P Res : List Int} (a b : Int) (h : MemoAt w AN cN N AG cG G AP cP P) (h1 : mayMB N G P = true) (h2 : inB P a = true) (h3 : inB P b = true) (hres : mergeO N G k P a b = some Res) :
  Calls Try.prog 40 #[.agg #[.slice AN N.length cN, .slice AG G.length cG, .slice AP P.length cP], .int .i64 a, .int .i64 b] w fun e w' => ∃ v0_ v1_ v2_ : Value, e = .returned (.tuple #[.agg #[v0_, v1_, v2_], .int .i64 (findS Res a), .int .i64 0]) ∧ Kd.R k48 48 w' w.heap.size (fun _ => True) v0_ N ∧ Kd.R (Kd.int .i64) 3 w' w.heap.size (fun k_ => some k_ ≠ (v2_ : Value).ownBlock) v1_ G ∧ Kd.R (Kd.int .i64) 3 w' w.heap.size (fun k_ => some k_ ≠ (v1_ : Value).ownBlock) v2_ Res ∧ Below w.heap.size w w' := by
 obtain ⟨hb, hn, hbb⟩ := res_new w AN cN N AG cG G AP cP P
 obtain ⟨hd0, hd1, hd2⟩ := hb.cells
 have hfm : formB N G P = true := by unfold mayMB at h1; simp only [Bool.and_eq_true] at h1; exact h1.1
 have HFM := Aside0.mk hfm
 have HBX := Aside0.mk hb
 have HNX := Aside0.mk hn
 have HM := Aside0.mk (h.below hbb)
 have HBB := Aside0.mk hbb
 have HF := Aside0.mk (mmay_calls (h.below hbb))
 have HA := Aside0.mk (fun (W : World) (h : MemoAt W AN cN N AG cG G AP cP P) => is_calls a h)
 have HAb := Aside0.mk (fun (W : World) (h : MemoAt W AN cN N AG cG G AP cP P) => is_calls b h)
 have HO := Aside0.mk (fun (W : World) (h : MemoAt W AN cN N AG cG G AP cP P) => own_calls h (form_lim hfm))
 rw [h1] at HF
 rw [h2] at HA
 rw [h3] at HAb
 have HIn := Aside0.mk (And.intro h2 h3)
 have HRes := Aside0.mk hres
 clear h h1 h2 h3 hb hn hbb hfm hres
 go_enter Try.func40, Try.ntmps40
 go_wp2_with (first | (go_at_call 41; refine (HF.out).mono ?_; rintro e w1 ⟨rfl, hb1⟩; have HB1 := Aside0.mk hb1; obtain ⟨ha0, ha1, ha2⟩ := (HBX.out.below hb1).cells; clear hb1) | (go_at_call 74; (refine (HA.out _ (HM.out.below HB1.out)).mono ?_; rintro e w2 ⟨rfl, hb2⟩; have HB2 := Aside0.mk (HB1.out.trans (hb2.mono HB1.out.size)); obtain ⟨hf0, hf1, hf2⟩ := (HBX.out.below HB2.out).cells; clear hb2 HA)) | (go_at_call 74; (refine (HAb.out _ (HM.out.below HB2.out)).mono ?_; rintro e w3 ⟨rfl, hb3⟩; have HB3 := Aside0.mk (HB2.out.trans (hb3.mono HB2.out.size)); obtain ⟨hg0, hg1, hg2⟩ := (HBX.out.below HB3.out).cells; clear hb3)) | (go_at_call 75; (refine (HO.out _ (HM.out.below HB3.out)).mono ?_; rintro e w4 ⟨v0, v1, v2, rfl, hr0, hr1, hr2, hb4⟩; obtain ⟨B0, d0, e0⟩ := Kd.R_slice hr0; obtain ⟨B1, d1, e1⟩ := Kd.R_slice hr1; obtain ⟨B2, d2, e2⟩ := Kd.R_slice hr2; subst e0 e1 e2; have HR0 := Aside0.mk hr0; have HR1 := Aside0.mk hr1; have HR2 := Aside0.mk hr2; have HB4 := Aside0.mk hb4; clear hr0 hr1 hr2 hb4)))
 go_loopg [10, 11] k (fun gk v10 v11 wr => ∃ (b10 : Nat) (closed : Bool) (x y : Int) (Q : List Int) (A2 : Option Addr) (c2 : Nat), v10 = .pointer (some ⟨b10, 0, none⟩) ∧ v11 = .bool closed ∧ Aside0 (MergeInv w w4 wr w4.heap.size b10 (.slice B0 N.length d0) (.slice B1 G.length d1) (.slice A2 Q.length c2) N G Q x y) ∧ Aside0 (Q.length = P.length ∧ mayB Q = true) ∧ Aside0 ((closed = true ∧ Q = Res) ∨ (closed = false ∧ inB Q x = true ∧ inB Q y = true ∧ mergeO N G gk Q x y = some Res)))
 case atStart =>
  have hs4 : w.heap.size ≤ w4.heap.size := by have := HBB.out.size; have := HB3.out.size; have := HB4.out.size; omega
  have hs3 : w.heap.size ≤ w3.heap.size := by have := HBB.out.size; have := HB3.out.size; omega
  have hbw : Below w.heap.size w w4 := below_then HBB.out HBB.out.size (HB3.out.trans (HB4.out.mono HB3.out.size))
  have hst : Below w4.heap.size w4 ((w4.alloc (.cells #[.slice B0 N.length d0, .slice B1 G.length d1, .slice B2 P.length d2] 38)).alloc (.cells #[.int .i64 a, .int .i64 b] 89)) := below_alloc (below_alloc (Below.refl _ _) _) _
  refine ⟨w4.heap.size + 1, false, a, b, P, B2, d2, rfl, rfl, ⟨?_⟩, ⟨rfl, (formB_parts HFM.out).1⟩, ⟨.inr ⟨rfl, HIn.out.1, HIn.out.2, HRes.out⟩⟩⟩
  refine ⟨below_alloc (below_alloc hbw _) _, ?_, ((below_alloc (Below.refl _ _) _).block _ (by rw [alloc_size1]; omega)).trans (heap_alloc_new _ _), Kd.R_below (Kd.R_lower HR0.out hs3) hst, Kd.R_below (Kd.R_lower HR1.out hs3) hst, Kd.R_below (Kd.R_lower HR2.out hs3) hst, hs4, by omega, by omega, fun k hk => hst.block k hk⟩
  have := heap_alloc_new (w4.alloc (.cells #[.slice B0 N.length d0, .slice B1 G.length d1, .slice B2 P.length d2] 38)) (.cells #[.int .i64 a, .int .i64 b] 89)
  rw [alloc_size1 w4] at this
  exact this
 case round =>
  obtain ⟨b10, closed, x, y, Q, A2, c2, rfl, rfl, HI, HQ, HC⟩ := hrel
  rcases HC.out with ⟨rfl, rfl⟩ | ⟨rfl, hx, hy, hm⟩
  ·obtain ⟨hd0, hd1, hd2⟩ : wr.cell? ⟨w4.heap.size, 0, none⟩ = some (.slice B0 N.length d0) ∧ wr.cell? ⟨w4.heap.size, 1, none⟩ = some (.slice B1 G.length d1) ∧ wr.cell? ⟨w4.heap.size, 2, none⟩ = some (.slice A2 Q.length c2) := ⟨(blk_cell HI.out.out 0).trans rfl, (blk_cell HI.out.out 1).trans rfl, (blk_cell HI.out.out 2).trans rfl⟩
   have h6 : wr.heap[w.heap.size + 1]? = some (.cells #[.slice none 0 0, .slice none 0 0, .slice none 0 0] 38 (0, 0)) := by
    have hlt : w.heap.size + 1 < w4.heap.size := blk_lt (((HB3.out.trans (HB4.out.mono HB3.out.size)).block _ (blk_lt HNX.out)).trans HNX.out)
    exact (HI.out.old _ hlt).trans (((HB3.out.trans (HB4.out.mono HB3.out.size)).block _ (blk_lt HNX.out)).trans HNX.out)
   have HD := Aside0.mk (fun (W : World) (hb : Below wr.heap.size wr W) => Find_calls a (show MemoAt W B0 d0 N B1 d1 G A2 c2 Q from (MemoAt.below ⟨(Kd.R_reads' HI.out.n).2.2, (Kd.R_reads' HI.out.n).2.1, (Kd.R_reads' HI.out.g).2.2, (Kd.R_reads' HI.out.g).2.1, (Kd.R_reads' HI.out.p).2.2, (Kd.R_reads' HI.out.p).2.1⟩ hb)))
   have hx0 : wr.cell? ⟨w.heap.size + 1, 0, none⟩ = some (.slice none 0 0) := (blk_cell h6 0).trans rfl
   have hx1 : wr.cell? ⟨w.heap.size + 1, 1, none⟩ = some (.slice none 0 0) := (blk_cell h6 1).trans rfl
   have hx2 : wr.cell? ⟨w.heap.size + 1, 2, none⟩ = some (.slice none 0 0) := (blk_cell h6 2).trans rfl
   have hy0 : wr.frozen? ⟨w.heap.size + 1, 0, none⟩ = false := blk_frozen h6 0
   have hy1 : wr.frozen? ⟨w.heap.size + 1, 1, none⟩ = false := blk_frozen h6 1
   have hy2 : wr.frozen? ⟨w.heap.size + 1, 2, none⟩ = false := blk_frozen h6 2
   have H6 := Aside0.mk h6
   clear h6
   go_wp2
   go_region_with (go_at_call 42; (refine (HD.out _ (pw_below_drewN (Below.refl _ _) _)).mono ?_; rintro e w5 ⟨rfl, hb5⟩; have HB5 := Aside0.mk hb5; obtain ⟨hz0, hz1, hz2⟩ : w5.cell? ⟨w.heap.size + 1, 0, none⟩ = some (.slice none 0 0) ∧ w5.cell? ⟨w.heap.size + 1, 1, none⟩ = some (.slice none 0 0) ∧ w5.cell? ⟨w.heap.size + 1, 2, none⟩ = some (.slice none 0 0) := (by have h6 := (hb5.block _ (blk_lt H6.out)).trans H6.out; exact ⟨(blk_cell h6 0).trans rfl, (blk_cell h6 1).trans rfl, (blk_cell h6 2).trans rfl⟩); obtain ⟨hz3, hz4, hz5⟩ : w5.frozen? ⟨w.heap.size + 1, 0, none⟩ = false ∧ w5.frozen? ⟨w.heap.size + 1, 1, none⟩ = false ∧ w5.frozen? ⟨w.heap.size + 1, 2, none⟩ = false := (by have h6 := (hb5.block _ (blk_lt H6.out)).trans H6.out; exact ⟨blk_frozen h6 0, blk_frozen h6 1, blk_frozen h6 2⟩); obtain ⟨hv0, hv1, hv2⟩ : w5.cell? ⟨w4.heap.size, 0, none⟩ = some (.slice B0 N.length d0) ∧ w5.cell? ⟨w4.heap.size, 1, none⟩ = some (.slice B1 G.length d1) ∧ w5.cell? ⟨w4.heap.size, 2, none⟩ = some (.slice A2 Q.length c2) := (by have h6 := (hb5.block _ (blk_lt HI.out.out)).trans HI.out.out; exact ⟨(blk_cell h6 0).trans rfl, (blk_cell h6 1).trans rfl, (blk_cell h6 2).trans rfl⟩); clear hb5))
   all_goals
    go_wp2
    have hI5 := (HI.out.below (pw_below_drewN (Below.refl _ _) _)).below HB5.out
    have h65 := (HB5.out.block _ (blk_lt H6.out)).trans H6.out
    have hR := res_put h65 (by omega) hI5.bel hI5.n hI5.g hI5.p
    refine bodyPost_ret (v := .tuple #[.agg #[.slice B0 N.length d0, .slice B1 G.length d1, .slice A2 Q.length c2], .int .i64 (findS Q a), .int .i64 0]) (by simp [results, Try.results40, go_sem, hz0, hz1, hz2]) rfl ⟨_, _, _, rfl, hR⟩
  ·cases gk with
   | zero => cases hm
   | succ g =>
    have hJ := inB_joined HQ.out.2 hx hy
    have hje := joined_eq hJ
    have hjl := joined_length hJ
    have hjm := joined_may hJ
    unfold mergeO at hm
    rw [hje] at hm
    dsimp only at hm
    obtain ⟨Q', hQ'⟩ : ∃ Q', Q' = joinP Q x y := ⟨_, rfl⟩
    rw [← hQ'] at hje hm hjl hjm
    have hf' : formB N G Q' = true := form_same HFM.out hjm (hjl.trans HQ.out.1)
    have HJC := Aside0.mk (sets_Join.calls 0 A2 c2 Q x y Q' true wr (Kd.R_reads' HI.out.p).2.2 (Kd.R_reads' HI.out.p).2.1 (by unfold sets_Join.f; rw [hje]; rfl))
    have HFI := Aside0.mk (fun (W : World) (A : Option Addr) (c : Nat) (h : MemoAt W B0 d0 N B1 d1 G A c Q') => first_calls h hf')
    obtain ⟨T, hT⟩ : ∃ T, T = confS N G Q' := ⟨_, rfl⟩
    rw [← hT] at HFI hm
    obtain ⟨g1, e1⟩ : ∃ g1, g1 = (firstR T).1 := ⟨_, rfl⟩
    obtain ⟨g2, e2⟩ : ∃ g2, g2 = (firstR T).2.1 := ⟨_, rfl⟩
    obtain ⟨z, e3⟩ : ∃ z, z = T.isNone := ⟨_, rfl⟩
    rw [← e1, ← e2, ← e3] at HFI
    have hnext : (z = true ∧ Q' = Res) ∨ (z = false ∧ inB Q' g1 = true ∧ inB Q' g2 = true ∧ mergeO N G g Q' g1 g2 = some Res) := by
     cases T with
     | none => exact .inl ⟨e3, Option.some.inj hm⟩
     | some xy =>
      obtain ⟨x', y'⟩ := xy
      have := confS_in hf' hT.symm
      rw [e1, e2]
      exact .inr ⟨e3, this.1, this.2, hm⟩
    have HNX2 := Aside0.mk hnext
    have HQ2 := Aside0.mk (And.intro (hjl.trans HQ.out.1) hjm)
    obtain ⟨hd0, hd1, hd2⟩ : wr.cell? ⟨w4.heap.size, 0, none⟩ = some (.slice B0 N.length d0) ∧ wr.cell? ⟨w4.heap.size, 1, none⟩ = some (.slice B1 G.length d1) ∧ wr.cell? ⟨w4.heap.size, 2, none⟩ = some (.slice A2 Q.length c2) := ⟨(blk_cell HI.out.out 0).trans rfl, (blk_cell HI.out.out 1).trans rfl, (blk_cell HI.out.out 2).trans rfl⟩
    obtain ⟨he0, he1⟩ : wr.cell? ⟨b10, 0, none⟩ = some (.int .i64 x) ∧ wr.cell? ⟨b10, 1, none⟩ = some (.int .i64 y) := ⟨(blk_cell HI.out.two 0).trans rfl, (blk_cell HI.out.two 1).trans rfl⟩
    clear hx hy hm hJ hje hjl hjm hQ' hf' hT e1 e2 e3 hnext HC
    go_wp2_with (first | (go_at_call 24; (refine HJC.out.mono ?_; rintro e w5 ⟨v3, rfl, hr, hb5⟩; obtain ⟨A3, c3, e3⟩ := Kd.R_slice hr; subst e3; have HI5 := Aside0.mk (HI.out.join hb5 hr); obtain ⟨hf0, hf1, hf2⟩ : w5.cell? ⟨w4.heap.size, 0, none⟩ = some (.slice B0 N.length d0) ∧ w5.cell? ⟨w4.heap.size, 1, none⟩ = some (.slice B1 G.length d1) ∧ w5.cell? ⟨w4.heap.size, 2, none⟩ = some (.slice A2 Q.length c2) := (by have h6 := (hb5.block _ (blk_lt HI.out.out)).trans HI.out.out; exact ⟨(blk_cell h6 0).trans rfl, (blk_cell h6 1).trans rfl, (blk_cell h6 2).trans rfl⟩); have hf3 : w5.frozen? ⟨w4.heap.size, 2, none⟩ = false := (by have h6 := (hb5.block _ (blk_lt HI.out.out)).trans HI.out.out; exact blk_frozen h6 2); clear hr hb5)) | (go_at_call 76; (refine (HFI.out _ A3 c3 ⟨(Kd.R_reads' HI5.out.n).2.2, (Kd.R_reads' HI5.out.n).2.1, (Kd.R_reads' HI5.out.g).2.2, (Kd.R_reads' HI5.out.g).2.1, (Kd.R_reads' HI5.out.p).2.2, (Kd.R_reads' HI5.out.p).2.1⟩).mono ?_; rintro e w6 ⟨bm, rfl, hb6, _⟩; have HI6 := Aside0.mk (HI5.out.first (x' := g1) (y' := g2) hb6); have h10 := (hb6.block _ (blk_lt HI5.out.two)).trans HI5.out.two; obtain ⟨hi0, hi1⟩ : w6.cell? ⟨b10, 0, none⟩ = some (.int .i64 x) ∧ w6.cell? ⟨b10, 1, none⟩ = some (.int .i64 y) := ⟨(blk_cell h10 0).trans rfl, (blk_cell h10 1).trans rfl⟩; have hi2 := blk_frozen h10 0; have hi3 := blk_frozen h10 1; clear hb6 h10)))
    go_roundg g
    case measure => omega
    case rel => exact ⟨_, z, g1, g2, Q', A3, c3, rfl, rfl, HI6, HQ2, HNX2⟩
set_option maxHeartbeats 16000000 in
set_option maxRecDepth 100000 in
theorem Merge_no {w : World} {AN AG AP : Option Addr} {cN cG cP : Nat} {N : List S48} {G P : List Int} (a b : Int) (h : MemoAt w AN cN N AG cG G AP cP P) (hl : lim3 N G P = true) (hno : mayMB N G P = false ∨ (mayMB N G P = true ∧ (inB P a = false ∨ (inB P a = true ∧ inB P b = false)))) :
  Calls Try.prog 40 #[.agg #[.slice AN N.length cN, .slice AG G.length cG, .slice AP P.length cP], .int .i64 a, .int .i64 b] w fun e w' => ∃ v0_ v1_ v2_ : Value, e = .returned (.tuple #[.agg #[v0_, v1_, v2_], .int .i64 (-1), .int .i64 1]) ∧ Kd.R k48 48 w' w.heap.size (fun _ => True) v0_ N ∧ Kd.R (Kd.int .i64) 3 w' w.heap.size (fun k_ => some k_ ≠ (v2_ : Value).ownBlock) v1_ G ∧ Kd.R (Kd.int .i64) 3 w' w.heap.size (fun k_ => some k_ ≠ (v1_ : Value).ownBlock) v2_ P ∧ Below w.heap.size w w' := by
 obtain ⟨hb, hn, hbb⟩ := res_new w AN cN N AG cG G AP cP P
 obtain ⟨hd0, hd1, hd2⟩ := hb.cells
 have HBX := Aside0.mk hb
 have HNX := Aside0.mk hn
 have HM := Aside0.mk (h.below hbb)
 have HBB := Aside0.mk hbb
 have HF := Aside0.mk (mmay_calls (h.below hbb))
 have HA := Aside0.mk (fun (W : World) (h : MemoAt W AN cN N AG cG G AP cP P) => is_calls a h)
 have HAb := Aside0.mk (fun (W : World) (h : MemoAt W AN cN N AG cG G AP cP P) => is_calls b h)
 have HO := Aside0.mk (fun (W : World) (h : MemoAt W AN cN N AG cG G AP cP P) => own_calls h hl)
 clear h hb hn hbb hl
 have main : ∀ (z1 z2 z3 : Bool), z1 = mayMB N G P → z2 = inB P a → z3 = inB P b → (z1 && (z2 && z3)) = false → Calls Try.prog 40 #[.agg #[.slice AN N.length cN, .slice AG G.length cG, .slice AP P.length cP], .int .i64 a, .int .i64 b] w fun e w' => ∃ v0_ v1_ v2_ : Value, e = .returned (.tuple #[.agg #[v0_, v1_, v2_], .int .i64 (-1), .int .i64 1]) ∧ Kd.R k48 48 w' w.heap.size (fun _ => True) v0_ N ∧ Kd.R (Kd.int .i64) 3 w' w.heap.size (fun k_ => some k_ ≠ (v2_ : Value).ownBlock) v1_ G ∧ Kd.R (Kd.int .i64) 3 w' w.heap.size (fun k_ => some k_ ≠ (v1_ : Value).ownBlock) v2_ P ∧ Below w.heap.size w w' := by
  intro z1 z2 z3 e1 e2 e3 hz
  rw [← e1] at HF
  rw [← e2] at HA
  rw [← e3] at HAb
  clear e1 e2 e3 hno
  have hcases : z1 = false ∨ (z1 = true ∧ z2 = false) ∨ (z1 = true ∧ z2 = true ∧ z3 = false) := by revert hz; cases z1 <;> cases z2 <;> cases z3 <;> simp
  clear hz
  rcases hcases with rfl | ⟨rfl, rfl⟩ | ⟨rfl, rfl, rfl⟩
  all_goals
   go_enter Try.func40, Try.ntmps40
   go_wp2_with (first | (go_at_call 41; refine (HF.out).mono ?_; rintro e w1 ⟨rfl, hb1⟩; have HB1 := Aside0.mk hb1; obtain ⟨ha0, ha1, ha2⟩ := (HBX.out.below hb1).cells; clear hb1) | (go_at_call 74; (with_reducible refine (HA.out _ (HM.out.below HB1.out)).mono ?_); rintro e w2 ⟨rfl, hb2⟩; have n_ := Aside0.mk (HB1.out.trans (hb2.mono HB1.out.size)); clear HB1; have HB1 := n_; clear n_; obtain ⟨hf0, hf1, hf2⟩ := (HBX.out.below HB1.out).cells; clear hb2) | (go_at_call 74; (with_reducible refine (HAb.out _ (HM.out.below HB1.out)).mono ?_); rintro e w2 ⟨rfl, hb2⟩; have n_ := Aside0.mk (HB1.out.trans (hb2.mono HB1.out.size)); clear HB1; have HB1 := n_; clear n_; obtain ⟨hf0, hf1, hf2⟩ := (HBX.out.below HB1.out).cells; clear hb2) | (go_at_call 75; (refine (HO.out _ (HM.out.below HB1.out)).mono ?_; rintro e w4 ⟨v0, v1, v2, rfl, hr0, hr1, hr2, hb4⟩; obtain ⟨B0, d0, e0⟩ := Kd.R_slice hr0; obtain ⟨B1, d1, e1⟩ := Kd.R_slice hr1; obtain ⟨B2, d2, e2⟩ := Kd.R_slice hr2; subst e0 e1 e2; have HR0 := Aside0.mk hr0; have HR1 := Aside0.mk hr1; have HR2 := Aside0.mk hr2; have HB4 := Aside0.mk hb4; have h6 := (((HB1.out.trans (hb4.mono HB1.out.size)).block _ (blk_lt HNX.out)).trans HNX.out); have H6 := Aside0.mk h6; have hx0 : w4.cell? ⟨w.heap.size + 1, 0, none⟩ = some (.slice none 0 0) := (blk_cell h6 0).trans rfl; have hx1 : w4.cell? ⟨w.heap.size + 1, 1, none⟩ = some (.slice none 0 0) := (blk_cell h6 1).trans rfl; have hx2 : w4.cell? ⟨w.heap.size + 1, 2, none⟩ = some (.slice none 0 0) := (blk_cell h6 2).trans rfl; have hy0 := blk_frozen h6 0; have hy1 := blk_frozen h6 1; have hy2 := blk_frozen h6 2; clear hr0 hr1 hr2 hb4 h6)))
   have hR := res_put (w := w) H6.out (by omega) (below_then HBB.out HBB.out.size (HB1.out.trans (HB4.out.mono HB1.out.size))) (Kd.R_lower HR0.out (by have := HB1.out.size; have := HBB.out.size; omega)) (Kd.R_lower HR1.out (by have := HB1.out.size; have := HBB.out.size; omega)) (Kd.R_lower HR2.out (by have := HB1.out.size; have := HBB.out.size; omega))
   refine bodyPost_ret (v := .tuple #[.agg #[.slice B0 N.length d0, .slice B1 G.length d1, .slice B2 P.length d2], .int .i64 (-1), .int .i64 1]) (by simp [results, Try.results40, go_sem, hx0, hx1, hx2]) rfl ⟨_, _, _, rfl, hR⟩
 exact main _ _ _ rfl rfl rfl (by rcases hno with h | ⟨h, h' | ⟨h', h''⟩⟩ <;> simp [*])
theorem mergeO_mono (N : List S48) (G : List Int) : ∀ k P x y, LeO (mergeO N G k P x y) (mergeO N G (k + 1) P x y)
 | 0, P, x, y => LeO.none _
 | k + 1, P, x, y => by
  rw [mergeO, mergeO]
  cases confS N G (joinS P x y).1 with
  | none => exact LeO.refl _
  | some ab => exact mergeO_mono N G k _ _ _
def memo_Merge.f (k : Nat) (l0_0 : List (S48)) (l0_1 : List Int) (l0_2 : List Int) (a1 : Int) (a2 : Int) : Option ((List (S48)) × List Int × List Int × Int × Int) :=
 if (mayMB l0_0 l0_1 l0_2 && (inB l0_2 a1 && inB l0_2 a2)) = true then (mergeO l0_0 l0_1 k l0_2 a1 a2).bind fun q => some (l0_0, l0_1, q, findS q a1, 0) else if lim3 l0_0 l0_1 l0_2 = true then some (l0_0, l0_1, l0_2, -1, 1) else none
theorem memo_Merge.calls (k : Nat) (A0_0 : Option Addr) (c0_0 : Nat) (l0_0 : List (S48)) (A0_1 : Option Addr) (c0_1 : Nat) (l0_1 : List Int) (A0_2 : Option Addr) (c0_2 : Nat) (l0_2 : List Int) (a1 : Int) (a2 : Int) (r1 : List (S48)) (r2 : List Int) (r3 : List Int) (r4 : Int) (r5 : Int) (w : World) (hr0_0 : Kd.C k48 w A0_0 l0_0.length l0_0) (hc0_0 : l0_0.length ≤ c0_0) (hr0_1 : Kd.C (Kd.int .i64) w A0_1 l0_1.length l0_1) (hc0_1 : l0_1.length ≤ c0_1) (hr0_2 : Kd.C (Kd.int .i64) w A0_2 l0_2.length l0_2) (hc0_2 : l0_2.length ≤ c0_2) (h : memo_Merge.f k l0_0 l0_1 l0_2 a1 a2 = some (r1, r2, r3, r4, r5)) :
  Calls Try.prog 40 #[.agg #[.slice A0_0 l0_0.length c0_0, .slice A0_1 l0_1.length c0_1, .slice A0_2 l0_2.length c0_2], .int .i64 a1, .int .i64 a2] w fun e w' => ∃ v0_ v1_ v2_ : Value, e = .returned (.tuple #[.agg #[v0_, v1_, v2_], .int .i64 r4, .int .i64 r5]) ∧ Kd.R k48 48 w' w.heap.size (fun _ => True) v0_ r1 ∧ Kd.R (Kd.int .i64) 3 w' w.heap.size (fun k_ => some k_ ≠ (v2_ : Value).ownBlock) v1_ r2 ∧ Kd.R (Kd.int .i64) 3 w' w.heap.size (fun k_ => some k_ ≠ (v1_ : Value).ownBlock) v2_ r3 ∧ Below w.heap.size w w' := by
 have hM : MemoAt w A0_0 c0_0 l0_0 A0_1 c0_1 l0_1 A0_2 c0_2 l0_2 := ⟨hr0_0, hc0_0, hr0_1, hc0_1, hr0_2, hc0_2⟩
 unfold memo_Merge.f at h
 by_cases hc : (mayMB l0_0 l0_1 l0_2 && (inB l0_2 a1 && inB l0_2 a2)) = true
 ·rw [if_pos hc] at h
  obtain ⟨q, hq, h⟩ := Option.bind_eq_some_iff.mp h
  simp only [Option.some.injEq, Prod.mk.injEq] at h
  obtain ⟨rfl, rfl, rfl, rfl, rfl⟩ := h
  simp only [Bool.and_eq_true] at hc
  exact Merge_yes k a1 a2 hM hc.1 hc.2.1 hc.2.2 hq
 ·rw [if_neg hc] at h
  by_cases hl : lim3 l0_0 l0_1 l0_2 = true
  ·rw [if_pos hl] at h
   simp only [Option.some.injEq, Prod.mk.injEq] at h
   obtain ⟨rfl, rfl, rfl, rfl, rfl⟩ := h
   refine Merge_no a1 a2 hM hl ?_
   revert hc
   cases mayMB l0_0 l0_1 l0_2 <;> cases inB l0_2 a1 <;> cases inB l0_2 a2 <;> simp
  ·rw [if_neg hl] at h; cases h

end Go.Proofs.Ytkidnomkfdnciaa.All
