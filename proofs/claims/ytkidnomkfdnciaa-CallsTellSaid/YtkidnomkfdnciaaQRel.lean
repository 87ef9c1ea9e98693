/- Functions of the program as plain Lean functions, and proofs that the calls do what these say; written for this claim by a program of the session (wip/tools/mkprint.py), checked by Lean. -/
import Derived.Test.YtkidnomkfdnciaaSets2
import Derived.Test.YtkidnomkfdnciaaAllx10
import Derived.Test.YtkidnomkfdnciaaBk
import Derived.Test.YtkidnomkfdnciaaAllx17
import Derived.Lib.QuietBelow
import Derived.StillTail
namespace Go.Proofs.Ytkidnomkfdnciaa.All
open Go.RowKit Go.Proofs.YtkidnomkfdnciaaW.PrintWords Go.Proofs.YtkidnomkfdnciaaW.PrintLast Go.Proofs.YtkidnomkfdnciaaW.PrintMore
attribute [local go_sem] max2_int min2_int max_two min_two max_three min_three max_four min_four
set_option linter.unusedVariables false
set_option linter.unusedSimpArgs false
def mergeO (N : List S48) (G : List Int) : Nat → List Int → Int → Int → Option (List Int)
 | 0, _, _, _ => none
 | k + 1, P, x, y => match confS N G (joinS P x y).1 with
  | none => some (joinS P x y).1
  | some (a, b) => mergeO N G k (joinS P x y).1 a b
theorem confN_some {cs : List S48} {G R : List Int} : ∀ {d k : Nat} {x y : Int}, confN cs G R d k = some (x, y) → ∃ i j, i < k + d ∧ j < k + d ∧ x = G.getD i 0 ∧ y = G.getD j 0
 | 0, k, x, y, h => by cases h
 | d + 1, k, x, y, h => by
  unfold confN at h
  cases hp : posN cs (cs.getD k z48) k with
  | none =>
   rw [hp] at h
   obtain ⟨i, j, h1, h2, h3⟩ := confN_some (d := d) (k := k + 1) h
   exact ⟨i, j, by omega, by omega, h3⟩
  | some i =>
   rw [hp] at h
   dsimp only at h
   split at h
   ·obtain ⟨i, j, h1, h2, h3⟩ := confN_some (d := d) (k := k + 1) h
    exact ⟨i, j, by omega, by omega, h3⟩
   ·obtain ⟨rfl, rfl⟩ := Prod.mk.inj (Option.some.inj h)
    have := posN_lt _ _ _ _ hp
    exact ⟨i, k, by omega, by omega, rfl, rfl⟩
theorem confS_in {N : List S48} {G P : List Int} (hf : formB N G P = true) {x y : Int} (h : confS N G P = some (x, y)) : inB P x = true ∧ inB P y = true := by
 obtain ⟨hm, hGN, hNl, hGi, hNi⟩ := formB_parts hf
 obtain ⟨i, j, h1, h2, rfl, rfl⟩ := confN_some h
 exact ⟨hGi i (by omega), hGi j (by omega)⟩
theorem inB_joined {P : List Int} {x y : Int} (hm : mayB P = true) (hx : inB P x = true) (hy : inB P y = true) : Joined P x y := by
 simp only [inB, Bool.and_eq_true, decide_eq_true_eq] at hx hy
 exact ⟨hm, hx.1, hx.2, hy.1, hy.2⟩
theorem form_same {N : List S48} {G P Q : List Int} (hf : formB N G P = true) (hm : mayB Q = true) (hl : Q.length = P.length) : formB N G Q = true := by
 unfold formB at *
 simp only [Bool.and_eq_true] at hf ⊢
 refine ⟨hm, hf.2.1, hf.2.2.1, ?_, ?_⟩
 ·have h := hf.2.2.2.1
  have : (fun g => !inB Q g) = (fun g => !inB P g) := by funext g; rw [inB_of_len hl]
  rw [this]; exact h
 ·have h := hf.2.2.2.2
  have : (fun n => !nodeB Q n) = (fun n => !nodeB P n) := by funext n; unfold nodeB; rw [inB_of_len hl, inB_of_len hl]
  rw [this]; exact h
structure MergeInv (w W wr : World) (b9 b10 : Nat) (v0 v1 v2 : Value) (N : List S48) (G Q : List Int) (x y : Int) : Prop where
 bel : Below w.heap.size w wr
 two : wr.heap[b10]? = some (.cells #[.int .i64 x, .int .i64 y] 89 (0, 0))
 out : wr.heap[b9]? = some (.cells #[v0, v1, v2] 38 (0, 0))
 n : Kd.R k48 48 wr w.heap.size (fun _ => True) v0 N
 g : Kd.R (Kd.int .i64) 3 wr w.heap.size (fun k => some k ≠ v2.ownBlock) v1 G
 p : Kd.R (Kd.int .i64) 3 wr w.heap.size (fun k => some k ≠ v1.ownBlock) v2 Q
 b0 : w.heap.size ≤ b9
 b1 : w.heap.size ≤ b10
 b2 : b9 < b10
 old : ∀ k, k < b9 → wr.heap[k]? = W.heap[k]?
theorem MergeInv.below {w W wr w' : World} {b9 b10 : Nat} {v0 v1 v2 : Value} {N : List S48} {G Q : List Int} {x y : Int} (h : MergeInv w W wr b9 b10 v0 v1 v2 N G Q x y) (hb : Below wr.heap.size wr w') : MergeInv w W w' b9 b10 v0 v1 v2 N G Q x y :=
 ⟨below_then h.bel h.bel.size hb, (hb.block _ (blk_lt h.two)).trans h.two, (hb.block _ (blk_lt h.out)).trans h.out, Kd.R_below h.n hb, Kd.R_below h.g hb, Kd.R_below h.p hb, h.b0, h.b1, h.b2, fun k hk => (hb.block k (Nat.lt_trans hk (blk_lt h.out))).trans (h.old k hk)⟩
theorem MergeInv.join {w W wr w1 : World} {b9 b10 : Nat} {v0 v1 v2 v3 : Value} {N : List S48} {G Q Q' : List Int} {x y : Int} (h : MergeInv w W wr b9 b10 v0 v1 v2 N G Q x y) (hb : Below wr.heap.size wr w1)
  (hr : Kd.R (Kd.int .i64) 3 w1 wr.heap.size (fun _ => True) v3 Q') : MergeInv w W (w1.setCell ⟨b9, 2, none⟩ v3) b9 b10 v0 v1 v3 N G Q' x y := by
 have h1 := h.below hb
 have hs := h.bel.size
 refine ⟨below_set h1.bel h.b0, blk_far h1.two (Nat.ne_of_gt h.b2) _, (blk_put h1.out 2 v3 rfl), Kd.R_set h1.n h1.out (by decide) _ _, Kd.R_set ?_ h1.out (by decide) _ _, Kd.R_set ?_ h1.out (by decide) _ _, h.b0, h.b1, h.b2, fun k hk => (Below.heap_setCell _ _ _ k (Nat.ne_of_lt hk)).trans (h1.old k hk)⟩
 ·refine Kd.R_mono (Kd.R_below (Kd.R_bound h.g) hb) (fun k hk e => ?_)
  have := Kd.R_base hr k e.symm
  have := hk.2.2.1
  omega
 ·refine Kd.R_mono (Kd.R_lower (Kd.R_bound hr) hs) (fun k hk e => ?_)
  have := Kd.R_lt h.g k e.symm
  have := hk.2.1
  omega
theorem MergeInv.first {w W wr w2 : World} {b9 b10 : Nat} {v0 v1 v2 : Value} {N : List S48} {G Q : List Int} {x y x' y' : Int} (h : MergeInv w W wr b9 b10 v0 v1 v2 N G Q x y) (hb : Below wr.heap.size wr w2) :
  MergeInv w W (((w2.setCell ⟨b10, 0, none⟩ (.int .i64 x')).setCell ⟨b10, 1, none⟩ (.int .i64 y')).alloc (.cells #[.int .i64 x', .int .i64 y'] 89)) b9 w2.heap.size v0 v1 v2 N G Q x' y' := by
 have hsz : ((w2.setCell ⟨b10, 0, none⟩ (.int .i64 x')).setCell ⟨b10, 1, none⟩ (.int .i64 y')).heap.size = w2.heap.size := by simp
 rw [← hsz]
 have h1 := h.below hb
 have t1 := blk_put h1.two 0 (.int .i64 x') rfl
 have o2 := blk_far (p := ⟨b10, 1, none⟩) (blk_far (p := ⟨b10, 0, none⟩) h1.out (Nat.ne_of_lt h.b2) (.int .i64 x')) (Nat.ne_of_lt h.b2) (.int .i64 y')
 have hB : Below w.heap.size w ((w2.setCell ⟨b10, 0, none⟩ (.int .i64 x')).setCell ⟨b10, 1, none⟩ (.int .i64 y')) := below_set (below_set h1.bel h.b1) h.b1
 exact ⟨below_alloc hB _, heap_alloc_new _ _, ((below_alloc (Below.refl _ _) _).block _ (blk_lt o2)).trans o2,
  Kd.R_below (Kd.R_set (Kd.R_set h1.n h1.two (by decide) _ _) t1 (by decide) _ _) (below_alloc (Below.refl _ _) _),
  Kd.R_below (Kd.R_set (Kd.R_set h1.g h1.two (by decide) _ _) t1 (by decide) _ _) (below_alloc (Below.refl _ _) _),
  Kd.R_below (Kd.R_set (Kd.R_set h1.p h1.two (by decide) _ _) t1 (by decide) _ _) (below_alloc (Below.refl _ _) _), h.b0, hB.size, blk_lt o2, fun k hk => ((below_alloc (Below.refl _ _) _).block _ (Nat.lt_trans hk (blk_lt o2))).trans ((Below.heap_setCell _ _ _ k (Nat.ne_of_lt (Nat.lt_trans hk h.b2))).trans ((Below.heap_setCell _ _ _ k (Nat.ne_of_lt (Nat.lt_trans hk h.b2))).trans (h1.old k hk)))⟩
def lim3 (N : List S48) (G P : List Int) : Bool := limN N && (limI G && limI P)
theorem own_some (N : List S48) (G P : List Int) (k : Nat) (h : lim3 N G P = true) : memo_own.f k N G P = some (N, G, P) := by
 unfold lim3 at h
 simp only [Bool.and_eq_true] at h
 unfold memo_own.f api_Node_94.f slices_Clone_int_int.f
 rw [if_pos h.1, if_pos h.2.1, if_pos h.2.2]
 rfl
theorem form_lim {N : List S48} {G P : List Int} (h : formB N G P = true) : lim3 N G P = true := by
 obtain ⟨hm, hGN, hNl, hGi, hNi⟩ := formB_parts h
 have := mayB_len hm
 unfold lim3 limN limI
 simp only [Bool.and_eq_true, decide_eq_true_eq]
 omega
theorem own_calls {w : World} {AN AG AP : Option Addr} {cN cG cP : Nat} {N : List S48} {G P : List Int} (h : MemoAt w AN cN N AG cG G AP cP P) (hl : lim3 N G P = true) :
  Calls Try.prog 75 #[.agg #[.slice AN N.length cN, .slice AG G.length cG, .slice AP P.length cP]] w fun e w' => ∃ v0_ v1_ v2_ : Value, e = .returned (.agg #[v0_, v1_, v2_]) ∧ Kd.R k48 48 w' w.heap.size (fun _ => True) v0_ N ∧ Kd.R (Kd.int .i64) 3 w' w.heap.size (fun k_ => some k_ ≠ (v2_ : Value).ownBlock) v1_ G ∧ Kd.R (Kd.int .i64) 3 w' w.heap.size (fun k_ => some k_ ≠ (v1_ : Value).ownBlock) v2_ P ∧ Below w.heap.size w w' :=
 memo_own.calls 0 AN cN N AG cG G AP cP P _ _ _ w h.n h.nc h.g h.gc h.p h.pc (own_some N G P 0 hl)
theorem res_new (w : World) (AN : Option Addr) (cN : Nat) (N : List S48) (AG : Option Addr) (cG : Nat) (G : List Int) (AP : Option Addr) (cP : Nat) (P : List Int) :
  MBox ((w.alloc (.cells #[.slice AN N.length cN, .slice AG G.length cG, .slice AP P.length cP] 38)).alloc (.cells #[.slice none 0 0, .slice none 0 0, .slice none 0 0] 38)) w.heap.size AN cN N AG cG G AP cP P ∧
  ((w.alloc (.cells #[.slice AN N.length cN, .slice AG G.length cG, .slice AP P.length cP] 38)).alloc (.cells #[.slice none 0 0, .slice none 0 0, .slice none 0 0] 38)).heap[w.heap.size + 1]? = some (.cells #[.slice none 0 0, .slice none 0 0, .slice none 0 0] 38 (0, 0)) ∧
  Below w.heap.size w ((w.alloc (.cells #[.slice AN N.length cN, .slice AG G.length cG, .slice AP P.length cP] 38)).alloc (.cells #[.slice none 0 0, .slice none 0 0, .slice none 0 0] 38)) := by
 refine ⟨(box_new w AN cN N AG cG G AP cP P).below (below_alloc (Below.refl _ _) _), ?_, below_alloc (below_alloc (Below.refl _ _) _) _⟩
 have := heap_alloc_new (w.alloc (.cells #[.slice AN N.length cN, .slice AG G.length cG, .slice AP P.length cP] 38)) (.cells #[.slice none 0 0, .slice none 0 0, .slice none 0 0] 38)
 rw [alloc_size1 w] at this
 exact this
theorem res_put {w W5 : World} {b6 : Nat} {x0 x1 x2 v0 v1 v2 : Value} {N : List S48} {G Q : List Int} (h6 : W5.heap[b6]? = some (.cells #[x0, x1, x2] 38 (0, 0))) (hb : w.heap.size ≤ b6) (bel : Below w.heap.size w W5)
  (n : Kd.R k48 48 W5 w.heap.size (fun _ => True) v0 N) (g : Kd.R (Kd.int .i64) 3 W5 w.heap.size (fun k => some k ≠ v2.ownBlock) v1 G) (p : Kd.R (Kd.int .i64) 3 W5 w.heap.size (fun k => some k ≠ v1.ownBlock) v2 Q) :
  Kd.R k48 48 (((W5.setCell ⟨b6, 0, none⟩ v0).setCell ⟨b6, 1, none⟩ v1).setCell ⟨b6, 2, none⟩ v2) w.heap.size (fun _ => True) v0 N ∧ Kd.R (Kd.int .i64) 3 (((W5.setCell ⟨b6, 0, none⟩ v0).setCell ⟨b6, 1, none⟩ v1).setCell ⟨b6, 2, none⟩ v2) w.heap.size (fun k => some k ≠ v2.ownBlock) v1 G ∧ Kd.R (Kd.int .i64) 3 (((W5.setCell ⟨b6, 0, none⟩ v0).setCell ⟨b6, 1, none⟩ v1).setCell ⟨b6, 2, none⟩ v2) w.heap.size (fun k => some k ≠ v1.ownBlock) v2 Q ∧ Below w.heap.size w (((W5.setCell ⟨b6, 0, none⟩ v0).setCell ⟨b6, 1, none⟩ v1).setCell ⟨b6, 2, none⟩ v2) := by
 have t1 := blk_put h6 0 v0 rfl
 have t2 := blk_put t1 1 v1 rfl
 exact ⟨Kd.R_set (Kd.R_set (Kd.R_set n h6 (by decide) _ _) t1 (by decide) _ _) t2 (by decide) _ _, Kd.R_set (Kd.R_set (Kd.R_set g h6 (by decide) _ _) t1 (by decide) _ _) t2 (by decide) _ _, Kd.R_set (Kd.R_set (Kd.R_set p h6 (by decide) _ _) t1 (by decide) _ _) t2 (by decide) _ _, below_set (below_set (below_set bel hb) hb) hb⟩
set_option maxHeartbeats 16000000 in
set_option maxRecDepth 100000 in
theorem Merge_yes (k : Nat) {w : World} {AN AG AP : Option Addr} {cN cG cP : Nat} {N : List S48} {G P Res : List Int} (a b : Int) (h : MemoAt w AN cN N AG cG G AP cP P) (h1 : mayMB N G P = true) (h2 : inB P a = true) (h3 : inB P b = true) (hres : mergeO N G k P a b = some Res) :
  Calls Try.prog 40 #[.agg #[.slice AN N.length cN, .slice AG G.length cG, .slice AP P.length cP], .int .i64 a, .int .i64 b] w fun e w' => ∃ v0_ v1_ v2_ : Value, e = .returned (.tuple #[.agg #[v0_, v1_, v2_], .int .i64 (findS Res a), .int .i64 0]) ∧ Kd.R k48 48 w' w.heap.size (fun _ => True) v0_ N ∧ Kd.R (Kd.int .i64) 3 w' w.heap.size (fun k_ => some k_ ≠ (v2_ : Value).ownBlock) v1_ G ∧ Kd.R (Kd.int .i64) 3 w' w.heap.size (fun k_ => some k_ ≠ (v1_ : Value).ownBlock) v2_ Res ∧ Below w.heap.size w w' := by
 obtain ⟨hb, hn, hbb⟩ := res_new w AN cN N AG cG G AP cP P
 obtain ⟨hd0, hd1, hd2⟩ := hb.cells
 have hfm : formB N G P = true := by unfold mayMB at h1; simp only [Bool.and_eq_true] at h1; exact h1.1
 have HFM := Aside0.mk hfm
 have HBX := Aside0.mk hb
 have HNX := Aside0.mk hn
 have HM := Aside0.mk (h.below hbb)
 have HBB := Aside0.mk hbb
 have HF := Aside0.mk (mmay_calls (h.below hbb))
 have HA := Aside0.mk (fun (W : World) (h : MemoAt W AN cN N AG cG G AP cP P) => is_calls a h)
 have HAb := Aside0.mk (fun (W : World) (h : MemoAt W AN cN N AG cG G AP cP P) => is_calls b h)
 have HO := Aside0.mk (fun (W : World) (h : MemoAt W AN cN N AG cG G AP cP P) => own_calls h (form_lim hfm))
 rw [h1] at HF
 rw [h2] at HA
 rw [h3] at HAb
 have HIn := Aside0.mk (And.intro h2 h3)
 have HRes := Aside0.mk hres
 clear h h1 h2 h3 hb hn hbb hfm hres
 go_enter Try.func40, Try.ntmps40
 go_wp2_with (first | (go_at_call 41; refine (HF.out).mono ?_; rintro e w1 ⟨rfl, hb1⟩; have HB1 := Aside0.mk hb1; obtain ⟨ha0, ha1, ha2⟩ := (HBX.out.below hb1).cells; clear hb1) | (go_at_call 74; (refine (HA.out _ (HM.out.below HB1.out)).mono ?_; rintro e w2 ⟨rfl, hb2⟩; have HB2 := Aside0.mk (HB1.out.trans (hb2.mono HB1.out.size)); obtain ⟨hf0, hf1, hf2⟩ := (HBX.out.below HB2.out).cells; clear hb2 HA)) | (go_at_call 74; (refine (HAb.out _ (HM.out.below HB2.out)).mono ?_; rintro e w3 ⟨rfl, hb3⟩; have HB3 := Aside0.mk (HB2.out.trans (hb3.mono HB2.out.size)); obtain ⟨hg0, hg1, hg2⟩ := (HBX.out.below HB3.out).cells; clear hb3)) | (go_at_call 75; (refine (HO.out _ (HM.out.below HB3.out)).mono ?_; rintro e w4 ⟨v0, v1, v2, rfl, hr0, hr1, hr2, hb4⟩; obtain ⟨B0, d0, e0⟩ := Kd.R_slice hr0; obtain ⟨B1, d1, e1⟩ := Kd.R_slice hr1; obtain ⟨B2, d2, e2⟩ := Kd.R_slice hr2; subst e0 e1 e2; have HR0 := Aside0.mk hr0; have HR1 := Aside0.mk hr1; have HR2 := Aside0.mk hr2; have HB4 := Aside0.mk hb4; clear hr0 hr1 hr2 hb4)))
 go_loopg [10, 11] k (fun gk v10 v11 wr => ∃ (b10 : Nat) (closed : Bool) (x y : Int) (Q : List Int) (A2 : Option Addr) (c2 : Nat), v10 = .pointer (some ⟨b10, 0, none⟩) ∧ v11 = .bool closed ∧ Aside0 (MergeInv w w4 wr w4.heap.size b10 (.slice B0 N.length d0) (.slice B1 G.length d1) (.slice A2 Q.length c2) N G Q x y) ∧ Aside0 (Q.length = P.length ∧ mayB Q = true) ∧ Aside0 ((closed = true ∧ Q = Res) ∨ (closed = false ∧ inB Q x = true ∧ inB Q y = true ∧ mergeO N G gk Q x y = some Res)))
 case atStart =>
  have hs4 : w.heap.size ≤ w4.heap.size := by have := HBB.out.size; have := HB3.out.size; have := HB4.out.size; omega
  have hs3 : w.heap.size ≤ w3.heap.size := by have := HBB.out.size; have := HB3.out.size; omega
  have hbw : Below w.heap.size w w4 := below_then HBB.out HBB.out.size (HB3.out.trans (HB4.out.mono HB3.out.size))
  have hst : Below w4.heap.size w4 ((w4.alloc (.cells #[.slice B0 N.length d0, .slice B1 G.length d1, .slice B2 P.length d2] 38)).alloc (.cells #[.int .i64 a, .int .i64 b] 89)) := below_alloc (below_alloc (Below.refl _ _) _) _
  refine ⟨w4.heap.size + 1, false, a, b, P, B2, d2, rfl, rfl, ⟨?_⟩, ⟨rfl, (formB_parts HFM.out).1⟩, ⟨.inr ⟨rfl, HIn.out.1, HIn.out.2, HRes.out⟩⟩⟩
  refine ⟨below_alloc (below_alloc hbw _) _, ?_, ((below_alloc (Below.refl _ _) _).block _ (by rw [alloc_size1]; omega)).trans (heap_alloc_new _ _), Kd.R_below (Kd.R_lower HR0.out hs3) hst, Kd.R_below (Kd.R_lower HR1.out hs3) hst, Kd.R_below (Kd.R_lower HR2.out hs3) hst, hs4, by omega, by omega, fun k hk => hst.block k hk⟩
  have := heap_alloc_new (w4.alloc (.cells #[.slice B0 N.length d0, .slice B1 G.length d1, .slice B2 P.length d2] 38)) (.cells #[.int .i64 a, .int .i64 b] 89)
  rw [alloc_size1 w4] at this
  exact this
 case round =>
  obtain ⟨b10, closed, x, y, Q, A2, c2, rfl, rfl, HI, HQ, HC⟩ := hrel
  rcases HC.out with ⟨rfl, rfl⟩ | ⟨rfl, hx, hy, hm⟩
  ·obtain ⟨hd0, hd1, hd2⟩ : wr.cell? ⟨w4.heap.size, 0, none⟩ = some (.slice B0 N.length d0) ∧ wr.cell? ⟨w4.heap.size, 1, none⟩ = some (.slice B1 G.length d1) ∧ wr.cell? ⟨w4.heap.size, 2, none⟩ = some (.slice A2 Q.length c2) := ⟨(blk_cell HI.out.out 0).trans rfl, (blk_cell HI.out.out 1).trans rfl, (blk_cell HI.out.out 2).trans rfl⟩
   have h6 : wr.heap[w.heap.size + 1]? = some (.cells #[.slice none 0 0, .slice none 0 0, .slice none 0 0] 38 (0, 0)) := by
    have hlt : w.heap.size + 1 < w4.heap.size := blk_lt (((HB3.out.trans (HB4.out.mono HB3.out.size)).block _ (blk_lt HNX.out)).trans HNX.out)
    exact (HI.out.old _ hlt).trans (((HB3.out.trans (HB4.out.mono HB3.out.size)).block _ (blk_lt HNX.out)).trans HNX.out)
   have HD := Aside0.mk (fun (W : World) (hb : Below wr.heap.size wr W) => Find_calls a (show MemoAt W B0 d0 N B1 d1 G A2 c2 Q from (MemoAt.below ⟨(Kd.R_reads' HI.out.n).2.2, (Kd.R_reads' HI.out.n).2.1, (Kd.R_reads' HI.out.g).2.2, (Kd.R_reads' HI.out.g).2.1, (Kd.R_reads' HI.out.p).2.2, (Kd.R_reads' HI.out.p).2.1⟩ hb)))
   have hx0 : wr.cell? ⟨w.heap.size + 1, 0, none⟩ = some (.slice none 0 0) := (blk_cell h6 0).trans rfl
   have hx1 : wr.cell? ⟨w.heap.size + 1, 1, none⟩ = some (.slice none 0 0) := (blk_cell h6 1).trans rfl
   have hx2 : wr.cell? ⟨w.heap.size + 1, 2, none⟩ = some (.slice none 0 0) := (blk_cell h6 2).trans rfl
   have hy0 : wr.frozen? ⟨w.heap.size + 1, 0, none⟩ = false := blk_frozen h6 0
   have hy1 : wr.frozen? ⟨w.heap.size + 1, 1, none⟩ = false := blk_frozen h6 1
   have hy2 : wr.frozen? ⟨w.heap.size + 1, 2, none⟩ = false := blk_frozen h6 2
   have H6 := Aside0.mk h6
   clear h6
   go_wp2
   go_region_with (go_at_call 42; (refine (HD.out _ (pw_below_drewN (Below.refl _ _) _)).mono ?_; rintro e w5 ⟨rfl, hb5⟩; have HB5 := Aside0.mk hb5; obtain ⟨hz0, hz1, hz2⟩ : w5.cell? ⟨w.heap.size + 1, 0, none⟩ = some (.slice none 0 0) ∧ w5.cell? ⟨w.heap.size + 1, 1, none⟩ = some (.slice none 0 0) ∧ w5.cell? ⟨w.heap.size + 1, 2, none⟩ = some (.slice none 0 0) := (by have h6 := (hb5.block _ (blk_lt H6.out)).trans H6.out; exact ⟨(blk_cell h6 0).trans rfl, (blk_cell h6 1).trans rfl, (blk_cell h6 2).trans rfl⟩); obtain ⟨hz3, hz4, hz5⟩ : w5.frozen? ⟨w.heap.size + 1, 0, none⟩ = false ∧ w5.frozen? ⟨w.heap.size + 1, 1, none⟩ = false ∧ w5.frozen? ⟨w.heap.size + 1, 2, none⟩ = false := (by have h6 := (hb5.block _ (blk_lt H6.out)).trans H6.out; exact ⟨blk_frozen h6 0, blk_frozen h6 1, blk_frozen h6 2⟩); obtain ⟨hv0, hv1, hv2⟩ : w5.cell? ⟨w4.heap.size, 0, none⟩ = some (.slice B0 N.length d0) ∧ w5.cell? ⟨w4.heap.size, 1, none⟩ = some (.slice B1 G.length d1) ∧ w5.cell? ⟨w4.heap.size, 2, none⟩ = some (.slice A2 Q.length c2) := (by have h6 := (hb5.block _ (blk_lt HI.out.out)).trans HI.out.out; exact ⟨(blk_cell h6 0).trans rfl, (blk_cell h6 1).trans rfl, (blk_cell h6 2).trans rfl⟩); clear hb5))
   all_goals
    go_wp2
    have hI5 := (HI.out.below (pw_below_drewN (Below.refl _ _) _)).below HB5.out
    have h65 := (HB5.out.block _ (blk_lt H6.out)).trans H6.out
    have hR := res_put h65 (by omega) hI5.bel hI5.n hI5.g hI5.p
    refine bodyPost_ret (v := .tuple #[.agg #[.slice B0 N.length d0, .slice B1 G.length d1, .slice A2 Q.length c2], .int .i64 (findS Q a), .int .i64 0]) (by simp [results, Try.results40, go_sem, hz0, hz1, hz2]) rfl ⟨_, _, _, rfl, hR⟩
  ·cases gk with
   | zero => cases hm
   | succ g =>
    have hJ := inB_joined HQ.out.2 hx hy
    have hje := joined_eq hJ
    have hjl := joined_length hJ
    have hjm := joined_may hJ
    unfold mergeO at hm
    rw [hje] at hm
    dsimp only at hm
    obtain ⟨Q', hQ'⟩ : ∃ Q', Q' = joinP Q x y := ⟨_, rfl⟩
    rw [← hQ'] at hje hm hjl hjm
    have hf' : formB N G Q' = true := form_same HFM.out hjm (hjl.trans HQ.out.1)
    have HJC := Aside0.mk (sets_Join.calls 0 A2 c2 Q x y Q' true wr (Kd.R_reads' HI.out.p).2.2 (Kd.R_reads' HI.out.p).2.1 (by unfold sets_Join.f; rw [hje]; rfl))
    have HFI := Aside0.mk (fun (W : World) (A : Option Addr) (c : Nat) (h : MemoAt W B0 d0 N B1 d1 G A c Q') => first_calls h hf')
    obtain ⟨T, hT⟩ : ∃ T, T = confS N G Q' := ⟨_, rfl⟩
    rw [← hT] at HFI hm
    obtain ⟨g1, e1⟩ : ∃ g1, g1 = (firstR T).1 := ⟨_, rfl⟩
    obtain ⟨g2, e2⟩ : ∃ g2, g2 = (firstR T).2.1 := ⟨_, rfl⟩
    obtain ⟨z, e3⟩ : ∃ z, z = T.isNone := ⟨_, rfl⟩
    rw [← e1, ← e2, ← e3] at HFI
    have hnext : (z = true ∧ Q' = Res) ∨ (z = false ∧ inB Q' g1 = true ∧ inB Q' g2 = true ∧ mergeO N G g Q' g1 g2 = some Res) := by
     cases T with
     | none => exact .inl ⟨e3, Option.some.inj hm⟩
     | some xy =>
      obtain ⟨x', y'⟩ := xy
      have := confS_in hf' hT.symm
      rw [e1, e2]
      exact .inr ⟨e3, this.1, this.2, hm⟩
    have HNX2 := Aside0.mk hnext
    have HQ2 := Aside0.mk (And.intro (hjl.trans HQ.out.1) hjm)
    obtain ⟨hd0, hd1, hd2⟩ : wr.cell? ⟨w4.heap.size, 0, none⟩ = some (.slice B0 N.length d0) ∧ wr.cell? ⟨w4.heap.size, 1, none⟩ = some (.slice B1 G.length d1) ∧ wr.cell? ⟨w4.heap.size, 2, none⟩ = some (.slice A2 Q.length c2) := ⟨(blk_cell HI.out.out 0).trans rfl, (blk_cell HI.out.out 1).trans rfl, (blk_cell HI.out.out 2).trans rfl⟩
    obtain ⟨he0, he1⟩ : wr.cell? ⟨b10, 0, none⟩ = some (.int .i64 x) ∧ wr.cell? ⟨b10, 1, none⟩ = some (.int .i64 y) := ⟨(blk_cell HI.out.two 0).trans rfl, (blk_cell HI.out.two 1).trans rfl⟩
    clear hx hy hm hJ hje hjl hjm hQ' hf' hT e1 e2 e3 hnext HC
    go_wp2_with (first | (go_at_call 24; (refine HJC.out.mono ?_; rintro e w5 ⟨v3, rfl, hr, hb5⟩; obtain ⟨A3, c3, e3⟩ := Kd.R_slice hr; subst e3; have HI5 := Aside0.mk (HI.out.join hb5 hr); obtain ⟨hf0, hf1, hf2⟩ : w5.cell? ⟨w4.heap.size, 0, none⟩ = some (.slice B0 N.length d0) ∧ w5.cell? ⟨w4.heap.size, 1, none⟩ = some (.slice B1 G.length d1) ∧ w5.cell? ⟨w4.heap.size, 2, none⟩ = some (.slice A2 Q.length c2) := (by have h6 := (hb5.block _ (blk_lt HI.out.out)).trans HI.out.out; exact ⟨(blk_cell h6 0).trans rfl, (blk_cell h6 1).trans rfl, (blk_cell h6 2).trans rfl⟩); have hf3 : w5.frozen? ⟨w4.heap.size, 2, none⟩ = false := (by have h6 := (hb5.block _ (blk_lt HI.out.out)).trans HI.out.out; exact blk_frozen h6 2); clear hr hb5)) | (go_at_call 76; (refine (HFI.out _ A3 c3 ⟨(Kd.R_reads' HI5.out.n).2.2, (Kd.R_reads' HI5.out.n).2.1, (Kd.R_reads' HI5.out.g).2.2, (Kd.R_reads' HI5.out.g).2.1, (Kd.R_reads' HI5.out.p).2.2, (Kd.R_reads' HI5.out.p).2.1⟩).mono ?_; rintro e w6 ⟨bm, rfl, hb6, _⟩; have HI6 := Aside0.mk (HI5.out.first (x' := g1) (y' := g2) hb6); have h10 := (hb6.block _ (blk_lt HI5.out.two)).trans HI5.out.two; obtain ⟨hi0, hi1⟩ : w6.cell? ⟨b10, 0, none⟩ = some (.int .i64 x) ∧ w6.cell? ⟨b10, 1, none⟩ = some (.int .i64 y) := ⟨(blk_cell h10 0).trans rfl, (blk_cell h10 1).trans rfl⟩; have hi2 := blk_frozen h10 0; have hi3 := blk_frozen h10 1; clear hb6 h10)))
    go_roundg g
    case measure => omega
    case rel => exact ⟨_, z, g1, g2, Q', A3, c3, rfl, rfl, HI6, HQ2, HNX2⟩
set_option maxHeartbeats 16000000 in
set_option maxRecDepth 100000 in
theorem Merge_no {w : World} {AN AG AP : Option Addr} {cN cG cP : Nat} {N : List S48} {G P : List Int} (a b : Int) (h : MemoAt w AN cN N AG cG G AP cP P) (hl : lim3 N G P = true) (hno : mayMB N G P = false ∨ (mayMB N G P = true ∧ (inB P a = false ∨ (inB P a = true ∧ inB P b = false)))) :
  Calls Try.prog 40 #[.agg #[.slice AN N.length cN, .slice AG G.length cG, .slice AP P.length cP], .int .i64 a, .int .i64 b] w fun e w' => ∃ v0_ v1_ v2_ : Value, e = .returned (.tuple #[.agg #[v0_, v1_, v2_], .int .i64 (-1), .int .i64 1]) ∧ Kd.R k48 48 w' w.heap.size (fun _ => True) v0_ N ∧ Kd.R (Kd.int .i64) 3 w' w.heap.size (fun k_ => some k_ ≠ (v2_ : Value).ownBlock) v1_ G ∧ Kd.R (Kd.int .i64) 3 w' w.heap.size (fun k_ => some k_ ≠ (v1_ : Value).ownBlock) v2_ P ∧ Below w.heap.size w w' := by
 obtain ⟨hb, hn, hbb⟩ := res_new w AN cN N AG cG G AP cP P
 obtain ⟨hd0, hd1, hd2⟩ := hb.cells
 have HBX := Aside0.mk hb
 have HNX := Aside0.mk hn
 have HM := Aside0.mk (h.below hbb)
 have HBB := Aside0.mk hbb
 have HF := Aside0.mk (mmay_calls (h.below hbb))
 have HA := Aside0.mk (fun (W : World) (h : MemoAt W AN cN N AG cG G AP cP P) => is_calls a h)
 have HAb := Aside0.mk (fun (W : World) (h : MemoAt W AN cN N AG cG G AP cP P) => is_calls b h)
 have HO := Aside0.mk (fun (W : World) (h : MemoAt W AN cN N AG cG G AP cP P) => own_calls h hl)
 clear h hb hn hbb hl
 have main : ∀ (z1 z2 z3 : Bool), z1 = mayMB N G P → z2 = inB P a → z3 = inB P b → (z1 && (z2 && z3)) = false → Calls Try.prog 40 #[.agg #[.slice AN N.length cN, .slice AG G.length cG, .slice AP P.length cP], .int .i64 a, .int .i64 b] w fun e w' => ∃ v0_ v1_ v2_ : Value, e = .returned (.tuple #[.agg #[v0_, v1_, v2_], .int .i64 (-1), .int .i64 1]) ∧ Kd.R k48 48 w' w.heap.size (fun _ => True) v0_ N ∧ Kd.R (Kd.int .i64) 3 w' w.heap.size (fun k_ => some k_ ≠ (v2_ : Value).ownBlock) v1_ G ∧ Kd.R (Kd.int .i64) 3 w' w.heap.size (fun k_ => some k_ ≠ (v1_ : Value).ownBlock) v2_ P ∧ Below w.heap.size w w' := by
  intro z1 z2 z3 e1 e2 e3 hz
  rw [← e1] at HF
  rw [← e2] at HA
  rw [← e3] at HAb
  clear e1 e2 e3 hno
  have hcases : z1 = false ∨ (z1 = true ∧ z2 = false) ∨ (z1 = true ∧ z2 = true ∧ z3 = false) := by revert hz; cases z1 <;> cases z2 <;> cases z3 <;> simp
  clear hz
  rcases hcases with rfl | ⟨rfl, rfl⟩ | ⟨rfl, rfl, rfl⟩
  all_goals
   go_enter Try.func40, Try.ntmps40
   go_wp2_with (first | (go_at_call 41; refine (HF.out).mono ?_; rintro e w1 ⟨rfl, hb1⟩; have HB1 := Aside0.mk hb1; obtain ⟨ha0, ha1, ha2⟩ := (HBX.out.below hb1).cells; clear hb1) | (go_at_call 74; (with_reducible refine (HA.out _ (HM.out.below HB1.out)).mono ?_); rintro e w2 ⟨rfl, hb2⟩; have n_ := Aside0.mk (HB1.out.trans (hb2.mono HB1.out.size)); clear HB1; have HB1 := n_; clear n_; obtain ⟨hf0, hf1, hf2⟩ := (HBX.out.below HB1.out).cells; clear hb2) | (go_at_call 74; (with_reducible refine (HAb.out _ (HM.out.below HB1.out)).mono ?_); rintro e w2 ⟨rfl, hb2⟩; have n_ := Aside0.mk (HB1.out.trans (hb2.mono HB1.out.size)); clear HB1; have HB1 := n_; clear n_; obtain ⟨hf0, hf1, hf2⟩ := (HBX.out.below HB1.out).cells; clear hb2) | (go_at_call 75; (refine (HO.out _ (HM.out.below HB1.out)).mono ?_; rintro e w4 ⟨v0, v1, v2, rfl, hr0, hr1, hr2, hb4⟩; obtain ⟨B0, d0, e0⟩ := Kd.R_slice hr0; obtain ⟨B1, d1, e1⟩ := Kd.R_slice hr1; obtain ⟨B2, d2, e2⟩ := Kd.R_slice hr2; subst e0 e1 e2; have HR0 := Aside0.mk hr0; have HR1 := Aside0.mk hr1; have HR2 := Aside0.mk hr2; have HB4 := Aside0.mk hb4; have h6 := (((HB1.out.trans (hb4.mono HB1.out.size)).block _ (blk_lt HNX.out)).trans HNX.out); have H6 := Aside0.mk h6; have hx0 : w4.cell? ⟨w.heap.size + 1, 0, none⟩ = some (.slice none 0 0) := (blk_cell h6 0).trans rfl; have hx1 : w4.cell? ⟨w.heap.size + 1, 1, none⟩ = some (.slice none 0 0) := (blk_cell h6 1).trans rfl; have hx2 : w4.cell? ⟨w.heap.size + 1, 2, none⟩ = some (.slice none 0 0) := (blk_cell h6 2).trans rfl; have hy0 := blk_frozen h6 0; have hy1 := blk_frozen h6 1; have hy2 := blk_frozen h6 2; clear hr0 hr1 hr2 hb4 h6)))
   have hR := res_put (w := w) H6.out (by omega) (below_then HBB.out HBB.out.size (HB1.out.trans (HB4.out.mono HB1.out.size))) (Kd.R_lower HR0.out (by have := HB1.out.size; have := HBB.out.size; omega)) (Kd.R_lower HR1.out (by have := HB1.out.size; have := HBB.out.size; omega)) (Kd.R_lower HR2.out (by have := HB1.out.size; have := HBB.out.size; omega))
   refine bodyPost_ret (v := .tuple #[.agg #[.slice B0 N.length d0, .slice B1 G.length d1, .slice B2 P.length d2], .int .i64 (-1), .int .i64 1]) (by simp [results, Try.results40, go_sem, hx0, hx1, hx2]) rfl ⟨_, _, _, rfl, hR⟩
 exact main _ _ _ rfl rfl rfl (by rcases hno with h | ⟨h, h' | ⟨h', h''⟩⟩ <;> simp [*])
theorem mergeO_mono (N : List S48) (G : List Int) : ∀ k P x y, LeO (mergeO N G k P x y) (mergeO N G (k + 1) P x y)
 | 0, P, x, y => LeO.none _
 | k + 1, P, x, y => by
  rw [mergeO, mergeO]
  cases confS N G (joinS P x y).1 with
  | none => exact LeO.refl _
  | some ab => exact mergeO_mono N G k _ _ _
def memo_Merge.f (k : Nat) (l0_0 : List (S48)) (l0_1 : List Int) (l0_2 : List Int) (a1 : Int) (a2 : Int) : Option ((List (S48)) × List Int × List Int × Int × Int) :=
 if (mayMB l0_0 l0_1 l0_2 && (inB l0_2 a1 && inB l0_2 a2)) = true then (mergeO l0_0 l0_1 k l0_2 a1 a2).bind fun q => some (l0_0, l0_1, q, findS q a1, 0) else if lim3 l0_0 l0_1 l0_2 = true then some (l0_0, l0_1, l0_2, -1, 1) else none
theorem memo_Merge.calls (k : Nat) (A0_0 : Option Addr) (c0_0 : Nat) (l0_0 : List (S48)) (A0_1 : Option Addr) (c0_1 : Nat) (l0_1 : List Int) (A0_2 : Option Addr) (c0_2 : Nat) (l0_2 : List Int) (a1 : Int) (a2 : Int) (r1 : List (S48)) (r2 : List Int) (r3 : List Int) (r4 : Int) (r5 : Int) (w : World) (hr0_0 : Kd.C k48 w A0_0 l0_0.length l0_0) (hc0_0 : l0_0.length ≤ c0_0) (hr0_1 : Kd.C (Kd.int .i64) w A0_1 l0_1.length l0_1) (hc0_1 : l0_1.length ≤ c0_1) (hr0_2 : Kd.C (Kd.int .i64) w A0_2 l0_2.length l0_2) (hc0_2 : l0_2.length ≤ c0_2) (h : memo_Merge.f k l0_0 l0_1 l0_2 a1 a2 = some (r1, r2, r3, r4, r5)) :
  Calls Try.prog 40 #[.agg #[.slice A0_0 l0_0.length c0_0, .slice A0_1 l0_1.length c0_1, .slice A0_2 l0_2.length c0_2], .int .i64 a1, .int .i64 a2] w fun e w' => ∃ v0_ v1_ v2_ : Value, e = .returned (.tuple #[.agg #[v0_, v1_, v2_], .int .i64 r4, .int .i64 r5]) ∧ Kd.R k48 48 w' w.heap.size (fun _ => True) v0_ r1 ∧ Kd.R (Kd.int .i64) 3 w' w.heap.size (fun k_ => some k_ ≠ (v2_ : Value).ownBlock) v1_ r2 ∧ Kd.R (Kd.int .i64) 3 w' w.heap.size (fun k_ => some k_ ≠ (v1_ : Value).ownBlock) v2_ r3 ∧ Below w.heap.size w w' := by
 have hM : MemoAt w A0_0 c0_0 l0_0 A0_1 c0_1 l0_1 A0_2 c0_2 l0_2 := ⟨hr0_0, hc0_0, hr0_1, hc0_1, hr0_2, hc0_2⟩
 unfold memo_Merge.f at h
 by_cases hc : (mayMB l0_0 l0_1 l0_2 && (inB l0_2 a1 && inB l0_2 a2)) = true
 ·rw [if_pos hc] at h
  obtain ⟨q, hq, h⟩ := Option.bind_eq_some_iff.mp h
  simp only [Option.some.injEq, Prod.mk.injEq] at h
  obtain ⟨rfl, rfl, rfl, rfl, rfl⟩ := h
  simp only [Bool.and_eq_true] at hc
  exact Merge_yes k a1 a2 hM hc.1 hc.2.1 hc.2.2 hq
 ·rw [if_neg hc] at h
  by_cases hl : lim3 l0_0 l0_1 l0_2 = true
  ·rw [if_pos hl] at h
   simp only [Option.some.injEq, Prod.mk.injEq] at h
   obtain ⟨rfl, rfl, rfl, rfl, rfl⟩ := h
   refine Merge_no a1 a2 hM hl ?_
   revert hc
   cases mayMB l0_0 l0_1 l0_2 <;> cases inB l0_2 a1 <;> cases inB l0_2 a2 <;> simp
  ·rw [if_neg hl] at h; cases h
end Go.Proofs.Ytkidnomkfdnciaa.All
namespace Go.Proofs.Ytkidnomkfdnciaa.All
open Go.RowKit Go.Proofs.YtkidnomkfdnciaaW.PrintWords
structure LeP (P Q : List Int) : Prop where
 len : Q.length = P.length
 root : ∀ i, i < P.length → rootN Q (rootN P i) = rootN Q i
theorem root_lt {P : List Int} (hm : mayB P = true) {i : Nat} (hi : i < P.length) : rootN P i < P.length := Nat.lt_of_le_of_lt (rootN_le hm hi) hi
theorem LeP.refl {P : List Int} (h : mayB P = true) : LeP P P := ⟨rfl, fun _ hi => rootN_idem h hi⟩
theorem LeP.trans {P Q R : List Int} (hP : mayB P = true) (h1 : LeP P Q) (h2 : LeP Q R) : LeP P R := ⟨h2.len.trans h1.len, fun i hi => by
 have a := h2.root i (by rw [h1.len]; exact hi)
 have b := h2.root (rootN P i) (by rw [h1.len]; exact root_lt hP hi)
 rw [h1.root i hi] at b
 exact b.symm.trans a⟩
theorem LeP.one {P Q : List Int} (h : LeP P Q) {i j : Nat} (hi : i < P.length) (hj : j < P.length) (e : rootN P i = rootN P j) : rootN Q i = rootN Q j := by
 rw [← h.root i hi, ← h.root j hj, e]
theorem join_le {P : List Int} {a b : Int} (h : Joined P a b) : LeP P (joinP P a b) := ⟨joined_length h, fun i hi => by
 rw [joined_root h (root_lt h.may hi), joined_root h hi, rootN_idem h.may hi]⟩
theorem join_two {P : List Int} {a b : Int} (h : Joined P a b) : rootN (joinP P a b) a.toNat = rootN (joinP P a b) b.toNat := by
 rw [joined_root h h.na, joined_root h h.nb]
 exact (J_one _ _ _ _).2 (.inr ⟨.inl rfl, .inr rfl⟩)
theorem join_least {P R : List Int} {a b : Int} (h : Joined P a b) (h1 : LeP P R) (h2 : rootN R a.toNat = rootN R b.toNat) : LeP (joinP P a b) R := ⟨h1.len.trans (joined_length h).symm, fun i hi => by
 rw [joined_length h] at hi
 rw [joined_root h hi]
 have ha := h1.root _ h.na
 have hb := h1.root _ h.nb
 have hi' := h1.root i hi
 rcases J_cases (rootN P a.toNat) (rootN P b.toNat) (rootN P i) with ⟨c, e⟩ | ⟨c, e⟩
 ·rw [e]
  have : rootN R (min (rootN P a.toNat) (rootN P b.toNat)) = rootN R a.toNat := by
   rcases Nat.le_total (rootN P a.toNat) (rootN P b.toNat) with hxy | hxy
   ·rw [Nat.min_eq_left hxy, ha]
   ·rw [Nat.min_eq_right hxy, hb, h2]
  rw [this, ← hi']
  rcases c with c | c
  ·rw [c, ha]
  ·rw [c, hb, h2]
 ·rw [e]; exact hi'⟩
theorem inB_iff {P : List Int} {g : Int} : inB P g = true ↔ 0 ≤ g ∧ g < P.length := by
 unfold inB
 rw [Bool.and_eq_true, decide_eq_true_eq, decide_eq_true_eq]
theorem inB_nat {P : List Int} {g : Int} (h : inB P g = true) : g.toNat < P.length := by
 have := inB_iff.1 h; omega
theorem find_in {P : List Int} (hm : mayB P = true) {g : Int} (h : inB P g = true) : findS P g = ((rootN P g.toNat : Nat) : Int) := by
 have := inB_iff.1 h
 exact findS_in hm this.1 this.2
theorem find_bd {P : List Int} (hm : mayB P = true) {g : Int} (h : inB P g = true) : inB P (findS P g) = true ∧ findS P g ≤ g := by
 have h0 := inB_iff.1 h
 have := root_lt hm (inB_nat h)
 have h2 := rootN_le hm (inB_nat h)
 rw [find_in hm h]
 exact ⟨inB_iff.2 ⟨by omega, by omega⟩, by omega⟩
theorem find_not {P : List Int} {g : Int} (h : mayB P = false ∨ inB P g = false) : findS P g = -1 := by
 unfold findS
 rw [if_neg]
 rcases h with h | h <;> rw [h] <;> simp
theorem find_neg {P : List Int} (g : Int) : findS P g = -1 ∨ 0 ≤ findS P g := by
 by_cases h : mayB P = true ∧ inB P g = true
 ·right; rw [find_in h.1 h.2]; omega
 ·left
  apply find_not
  cases hm : mayB P with
  | false => exact .inl rfl
  | true => right; rw [hm] at h; simpa using h
theorem find_ne {P : List Int} {g : Int} (h : findS P g ≠ -1) : mayB P = true ∧ inB P g = true := by
 unfold findS at h
 by_cases h2 : (mayB P && inB P g) = true
 ·rw [Bool.and_eq_true] at h2; exact h2
 ·rw [if_neg h2] at h; exact absurd rfl h
theorem rd_roots {P : List Int} (hm : mayB P = true) {g : Int} (h : inB P g = true) : rd (rootsS P) g = findS P g := by
 rw [find_in hm h]
 unfold rd
 exact rootsS_at hm (inB_nat h)
section
variable {P Q : List Int}
theorem LeP.inB (h : LeP P Q) (g : Int) : inB Q g = inB P g := inB_of_len h.len g
theorem LeP.find (hP : mayB P = true) (hQ : mayB Q = true) (h : LeP P Q) {g : Int} (hg : All.inB P g = true) : findS Q (findS P g) = findS Q g := by
 have h1 := (find_bd hP hg).1
 rw [find_in hQ (by rw [h.inB]; exact h1), find_in hQ (by rw [h.inB]; exact hg), find_in hP hg, Int.toNat_natCast, h.root _ (inB_nat hg)]
theorem LeP.same (hP : mayB P = true) (hQ : mayB Q = true) (h : LeP P Q) {g g' : Int} (hg : All.inB P g = true) (hg' : All.inB P g' = true) (e : findS P g = findS P g') : findS Q g = findS Q g' := by
 rw [← h.find hP hQ hg, ← h.find hP hQ hg', e]
end
section
variable {P Q : List Int} {n : S48}
theorem node_join (h : nodeB P n = true) (hj : n.f0 = true) : n.f1 = 0 ∧ inB P n.f2 = true ∧ inB P n.f3 = true := by
 unfold nodeB at h
 rw [if_pos hj] at h
 simp only [Bool.and_eq_true, decide_eq_true_eq] at h
 exact h
theorem canon_not (R : List Int) (hj : n.f0 = false) : canonS R n = n := by
 unfold canonS; rw [if_neg (by rw [hj]; decide)]
theorem canon_join (hm : mayB P = true) (h : nodeB P n = true) (hj : n.f0 = true) : canonS (rootsS P) n = ⟨true, n.f1, findS P n.f2, findS P n.f3⟩ := by
 obtain ⟨_, h2, h3⟩ := node_join h hj
 unfold canonS
 rw [if_pos hj, rd_roots hm h2, rd_roots hm h3, hj]
theorem canon_node (hm : mayB P = true) (h : nodeB P n = true) : nodeB P (canonS (rootsS P) n) = true := by
 cases hj : n.f0 with
 | false => rw [canon_not _ hj]; exact h
 | true =>
  obtain ⟨h1, h2, h3⟩ := node_join h hj
  rw [canon_join hm h hj]
  unfold nodeB
  rw [if_pos rfl, (find_bd hm h2).1, (find_bd hm h3).1, h1]
  rfl
theorem node_len (hl : Q.length = P.length) (n : S48) : nodeB Q n = nodeB P n := by unfold nodeB; rw [inB_of_len hl, inB_of_len hl]
theorem canon_canon (hP : mayB P = true) (hQ : mayB Q = true) (h : LeP P Q) (hn : nodeB P n = true) : canonS (rootsS Q) (canonS (rootsS P) n) = canonS (rootsS Q) n := by
 cases hj : n.f0 with
 | false => rw [canon_not (rootsS P) hj]
 | true =>
  obtain ⟨h1, h2, h3⟩ := node_join hn hj
  have hc := canon_node hP hn
  rw [canon_join hQ (by rw [node_len h.len]; exact hn) hj]
  rw [canon_join hP hn hj] at hc ⊢
  rw [canon_join hQ (by rw [node_len h.len]; exact hc) rfl]
  dsimp only
  rw [h.find hP hQ h2, h.find hP hQ h3]
theorem canon_le (hP : mayB P = true) (hQ : mayB Q = true) (h : LeP P Q) {n' : S48} (hn : nodeB P n = true) (hn' : nodeB P n' = true) (e : canonS (rootsS P) n = canonS (rootsS P) n') : canonS (rootsS Q) n = canonS (rootsS Q) n' := by
 rw [← canon_canon hP hQ h hn, ← canon_canon hP hQ h hn', e]
end
theorem posN_spec (cs : List S48) (x : S48) : ∀ k, (∀ i, posN cs x k = some i → i < k ∧ cs.getD i z48 = x ∧ ∀ j, j < i → cs.getD j z48 ≠ x) ∧ (posN cs x k = none → ∀ j, j < k → cs.getD j z48 ≠ x)
 | 0 => ⟨fun i h => (by cases h), fun _ j h => by omega⟩
 | k + 1 => by
  obtain ⟨h1, h2⟩ := posN_spec cs x k
  unfold posN
  cases hp : posN cs x k with
  | some i =>
   obtain ⟨a, b, c⟩ := h1 i hp
   exact ⟨fun j hj => by obtain rfl := Option.some.inj hj; exact ⟨by omega, b, c⟩, fun h => (by cases h)⟩
  | none =>
   have h2 := h2 hp
   dsimp only
   by_cases he : cs.getD k z48 = x
   ·rw [if_pos he]
    exact ⟨fun j hj => by obtain rfl := Option.some.inj hj; exact ⟨by omega, he, h2⟩, fun h => (by cases h)⟩
   ·rw [if_neg he]
    refine ⟨fun j hj => (by cases hj), fun _ j hj => ?_⟩
    rcases Nat.lt_or_ge j k with h | h
    ·exact h2 j h
    ·obtain rfl : j = k := by omega
     exact he
theorem posN_of (cs : List S48) (x : S48) {k i : Nat} (hi : i < k) (he : cs.getD i z48 = x) (hf : ∀ j, j < i → cs.getD j z48 ≠ x) : posN cs x k = some i := by
 obtain ⟨h1, h2⟩ := posN_spec cs x k
 cases hp : posN cs x k with
 | none => exact absurd he (h2 hp i hi)
 | some j =>
  obtain ⟨a, b, c⟩ := h1 j hp
  rcases Nat.lt_trichotomy i j with h | h | h
  ·exact absurd he (c i h)
  ·rw [h]
  ·exact absurd b (hf j h)
theorem posN_up (cs : List S48) (x : S48) {k m i : Nat} (h : posN cs x k = some i) (hk : k ≤ m) : posN cs x m = some i := by
 obtain ⟨a, b, c⟩ := (posN_spec cs x k).1 i h
 exact posN_of cs x (by omega) b c
theorem posN_is {cs : List S48} {n k : Nat} (h : k < n) : ∃ i, posN cs (cs.getD k z48) n = some i ∧ i ≤ k ∧ cs.getD i z48 = cs.getD k z48 := by
 obtain ⟨h1, h2⟩ := posN_spec cs (cs.getD k z48) n
 cases hp : posN cs (cs.getD k z48) n with
 | none => exact absurd rfl (h2 hp k h)
 | some i =>
  obtain ⟨a, b, c⟩ := h1 i hp
  refine ⟨i, rfl, ?_, b⟩
  rcases Nat.lt_or_ge k i with h' | h'
  ·exact absurd rfl (c k h')
  ·exact h'
theorem confN_none {cs : List S48} {G R : List Int} : ∀ {d k : Nat}, confN cs G R d k = none ↔ ∀ j, k ≤ j → j < k + d → ∀ i, posN cs (cs.getD j z48) j = some i → rd R (G.getD i 0) = rd R (G.getD j 0)
 | 0, k => ⟨fun _ j h1 h2 => by omega, fun _ => rfl⟩
 | d + 1, k => by
  unfold confN
  have ih := @confN_none cs G R d (k + 1)
  cases hp : posN cs (cs.getD k z48) k with
  | none =>
   dsimp only
   rw [ih]
   constructor
   ·intro h j h1 h2 i hi
    rcases Nat.lt_or_ge k j with h3 | h3
    ·exact h j (by omega) (by omega) i hi
    ·obtain rfl : j = k := by omega
     rw [hp] at hi; cases hi
   ·intro h j h1 h2 i hi
    exact h j (by omega) (by omega) i hi
  | some i0 =>
   dsimp only
   by_cases he : rd R (G.getD i0 0) = rd R (G.getD k 0)
   ·rw [if_pos he, ih]
    constructor
    ·intro h j h1 h2 i hi
     rcases Nat.lt_or_ge k j with h3 | h3
     ·exact h j (by omega) (by omega) i hi
     ·obtain rfl : j = k := by omega
      rw [hp] at hi; obtain rfl := Option.some.inj hi; exact he
    ·intro h j h1 h2 i hi
     exact h j (by omega) (by omega) i hi
   ·rw [if_neg he]
    constructor
    ·intro h; cases h
    ·intro h; exact absurd (h k (by omega) (by omega) i0 hp) he
theorem confN_at {cs : List S48} {G R : List Int} : ∀ {d k : Nat} {x y : Int}, confN cs G R d k = some (x, y) → ∃ i j, k ≤ j ∧ j < k + d ∧ posN cs (cs.getD j z48) j = some i ∧ x = G.getD i 0 ∧ y = G.getD j 0 ∧ rd R x ≠ rd R y ∧
   ∀ j', k ≤ j' → j' < j → ∀ i', posN cs (cs.getD j' z48) j' = some i' → rd R (G.getD i' 0) = rd R (G.getD j' 0)
 | 0, k, x, y, h => by cases h
 | d + 1, k, x, y, h => by
  unfold confN at h
  cases hp : posN cs (cs.getD k z48) k with
  | none =>
   rw [hp] at h
   obtain ⟨i, j, h1, h2, h3, h4, h5, h6, h7⟩ := confN_at (d := d) (k := k + 1) h
   refine ⟨i, j, by omega, by omega, h3, h4, h5, h6, fun j' a b i' hi' => ?_⟩
   rcases Nat.lt_or_ge k j' with h8 | h8
   ·exact h7 j' (by omega) b i' hi'
   ·obtain rfl : j' = k := by omega
    rw [hp] at hi'; cases hi'
  | some i0 =>
   rw [hp] at h
   dsimp only at h
   split at h
   ·rename_i he
    obtain ⟨i, j, h1, h2, h3, h4, h5, h6, h7⟩ := confN_at (d := d) (k := k + 1) h
    refine ⟨i, j, by omega, by omega, h3, h4, h5, h6, fun j' a b i' hi' => ?_⟩
    rcases Nat.lt_or_ge k j' with h8 | h8
    ·exact h7 j' (by omega) b i' hi'
    ·obtain rfl : j' = k := by omega
     rw [hp] at hi'; obtain rfl := Option.some.inj hi'; exact he
   ·rename_i he
    obtain ⟨rfl, rfl⟩ := Prod.mk.inj (Option.some.inj h)
    exact ⟨i0, k, Nat.le_refl _, by omega, hp, rfl, rfl, he, fun j' a b => by omega⟩
def Closed (N : List S48) (G P : List Int) : Prop := ∀ i k, i < N.length → k < N.length → canonS (rootsS P) (N.getD i z48) = canonS (rootsS P) (N.getD k z48) → findS P (G.getD i 0) = findS P (G.getD k 0)
theorem canons_at (N : List S48) (P : List Int) {k : Nat} (h : k < N.length) : (canonsS N P).getD k z48 = canonS (rootsS P) (N.getD k z48) := by
 unfold canonsS
 simp [List.getD_eq_getElem?_getD, List.getElem?_map, List.getElem?_eq_getElem h]
section
variable {N : List S48} {G P Q : List Int}
theorem form_G (hf : formB N G P = true) {i : Nat} (hi : i < N.length) : inB P (G.getD i 0) = true := (formB_parts hf).2.2.2.1 i (by rw [(formB_parts hf).2.1]; exact hi)
theorem form_N (hf : formB N G P = true) {i : Nat} (hi : i < N.length) : nodeB P (N.getD i z48) = true := (formB_parts hf).2.2.2.2 i hi
theorem conf_none (hf : formB N G P = true) : confS N G P = none ↔ Closed N G P := by
 have hm := (formB_parts hf).1
 unfold confS Closed
 rw [confN_none]
 constructor
 ·intro h
  have first : ∀ k, k < N.length → ∀ i, posN (canonsS N P) ((canonsS N P).getD k z48) N.length = some i → findS P (G.getD i 0) = findS P (G.getD k 0) := by
   intro k hk i hi
   cases hp : posN (canonsS N P) ((canonsS N P).getD k z48) k with
   | some j =>
    have := posN_up _ _ hp (Nat.le_of_lt hk)
    obtain rfl : i = j := by rw [hi] at this; exact Option.some.inj this
    have := h k (Nat.zero_le _) (by omega) i hp
    have hi' := posN_lt _ _ _ _ hp
    rw [rd_roots hm (form_G hf (by omega)), rd_roots hm (form_G hf hk)] at this
    exact this
   | none =>
    have := posN_of (canonsS N P) ((canonsS N P).getD k z48) hk rfl ((posN_spec _ _ _).2 hp)
    obtain rfl : i = k := by rw [hi] at this; exact Option.some.inj this
    rfl
  intro i k hi hk he
  obtain ⟨a, ha, _⟩ := posN_is (cs := canonsS N P) hi
  obtain ⟨b, hb, _⟩ := posN_is (cs := canonsS N P) hk
  have h1 := first i hi a ha
  have h2 := first k hk b hb
  rw [canons_at N P hi, he, ← canons_at N P hk] at ha
  obtain rfl : a = b := by rw [ha] at hb; exact Option.some.inj hb
  rw [← h1, h2]
 ·intro h j _ hj i hi
  have hi' := posN_lt _ _ _ _ hi
  have hjN : j < N.length := by omega
  rw [rd_roots hm (form_G hf (by omega)), rd_roots hm (form_G hf hjN)]
  have he := ((posN_spec _ _ _).1 i hi).2.1
  rw [canons_at N P (by omega), canons_at N P hjN] at he
  exact h i j (by omega) hjN he
theorem mayM_iff : mayMB N G P = true ↔ formB N G P = true ∧ Closed N G P := by
 unfold mayMB
 rw [Bool.and_eq_true, Option.isNone_iff_eq_none]
 constructor
 ·rintro ⟨h1, h2⟩; exact ⟨h1, (conf_none h1).1 h2⟩
 ·rintro ⟨h1, h2⟩; exact ⟨h1, (conf_none h1).2 h2⟩
theorem conf_some (hf : formB N G P = true) {x y : Int} (h : confS N G P = some (x, y)) : inB P x = true ∧ inB P y = true ∧ findS P x ≠ findS P y ∧ ∃ i j, i < N.length ∧ j < N.length ∧ x = G.getD i 0 ∧ y = G.getD j 0 ∧ canonS (rootsS P) (N.getD i z48) = canonS (rootsS P) (N.getD j z48) := by
 have hm := (formB_parts hf).1
 obtain ⟨i, j, h1, h2, h3, rfl, rfl, h4, _⟩ := confN_at h
 have hi := posN_lt _ _ _ _ h3
 have hj : j < N.length := by omega
 have he := ((posN_spec _ _ _).1 i h3).2.1
 rw [canons_at N P (by omega), canons_at N P hj] at he
 rw [rd_roots hm (form_G hf (by omega)), rd_roots hm (form_G hf hj)] at h4
 exact ⟨form_G hf (by omega), form_G hf hj, h4, i, j, by omega, hj, rfl, rfl, he⟩
end
structure Merged (N : List S48) (G P : List Int) (x y : Int) (Q : List Int) : Prop where
 may : mayB Q = true
 le : LeP P Q
 flat : rootsS Q = Q
 two : findS Q x = findS Q y
 closed : Closed N G Q
 least : ∀ R, mayB R = true → LeP P R → findS R x = findS R y → Closed N G R → LeP Q R
theorem sets_le (p : List Int) : sets p ≤ p.length := cnt_le _ _
section
variable {N : List S48} {G : List Int}
theorem merge_go : ∀ (s k : Nat) (P : List Int) (x y : Int), formB N G P = true → inB P x = true → inB P y = true → sets (joinP P x y) ≤ s → s < k → ∃ Q, mergeO N G k P x y = some Q ∧ Merged N G P x y Q := by
 intro s
 induction s with
 | zero =>
  intro k P x y hf hx hy hs hk
  obtain ⟨k, rfl⟩ : ∃ m, k = m + 1 := ⟨k - 1, by omega⟩
  exact go1 0 k P x y hf hx hy hs (by omega) (fun _ h => by omega)
 | succ s ih =>
  intro k P x y hf hx hy hs hk
  obtain ⟨k, rfl⟩ : ∃ m, k = m + 1 := ⟨k - 1, by omega⟩
  exact go1 (s + 1) k P x y hf hx hy hs (by omega) (fun P' h x' y' hf' hx' hy' hs' => ih k P' x' y' hf' hx' hy' (by omega) (by omega))
where
 go1 (s k : Nat) (P : List Int) (x y : Int) (hf : formB N G P = true) (hx : inB P x = true) (hy : inB P y = true) (hs : sets (joinP P x y) ≤ s) (hk : s ≤ k)
   (ih : ∀ P', 1 ≤ s → ∀ x' y', formB N G P' = true → inB P' x' = true → inB P' y' = true → sets (joinP P' x' y') < s → ∃ Q, mergeO N G k P' x' y' = some Q ∧ Merged N G P' x' y' Q) : ∃ Q, mergeO N G (k + 1) P x y = some Q ∧ Merged N G P x y Q := by
  have hm := (formB_parts hf).1
  have hJ := inB_joined hm hx hy
  have hje := joined_eq hJ
  have hl := joined_length hJ
  have hjm := joined_may hJ
  have hle := join_le hJ
  have hf' : formB N G (joinP P x y) = true := form_same hf hjm hl
  have htwo : findS (joinP P x y) x = findS (joinP P x y) y := by
   rw [find_in hjm (by rw [inB_of_len hl]; exact hx), find_in hjm (by rw [inB_of_len hl]; exact hy), join_two hJ]
  have hleast : ∀ R, mayB R = true → LeP P R → findS R x = findS R y → LeP (joinP P x y) R := by
   intro R hR h1 h2
   refine join_least hJ h1 ?_
   rw [find_in hR (by rw [h1.inB]; exact hx), find_in hR (by rw [h1.inB]; exact hy)] at h2
   omega
  unfold mergeO
  rw [hje]
  dsimp only
  cases hc : confS N G (joinP P x y) with
  | none => exact ⟨_, rfl, hjm, hle, joined_flat hJ, htwo, (conf_none hf').1 hc, fun R hR h1 h2 _ => hleast R hR h1 h2⟩
  | some ab =>
   obtain ⟨a, b⟩ := ab
   dsimp only
   obtain ⟨ha, hb, hab, i, j, hi, hj, ea, eb, hcan⟩ := conf_some hf' hc
   have hJ' := inB_joined hjm ha hb
   have hsets := joined_sets hJ'
   rw [find_in hjm ha, find_in hjm hb] at hab
   rw [if_neg (fun e => hab (by rw [e]))] at hsets
   obtain ⟨Q, hQ, q⟩ := ih (joinP P x y) (by omega) a b hf' ha hb (by omega)
   refine ⟨Q, hQ, q.may, hle.trans hm q.le, q.flat, ?_, q.closed, fun R hR h1 h2 h3 => ?_⟩
   ·exact q.le.same hjm q.may (by rw [hle.inB]; exact hx) (by rw [hle.inB]; exact hy) htwo
   ·have h4 := hleast R hR h1 h2
    refine q.least R hR h4 ?_ h3
    rw [ea, eb]
    exact h3 i j hi hj (canon_le hjm hR h4 (form_N hf' hi) (form_N hf' hj) hcan)
end
def mergeP (N : List S48) (G P : List Int) (x y : Int) : List Int := (mergeO N G 401 P x y).getD P
theorem mergeO_up {N : List S48} {G P Q : List Int} {x y : Int} {k : Nat} (h : mergeO N G k P x y = some Q) : ∀ m, k ≤ m → mergeO N G m P x y = some Q := by
 intro m hm
 obtain ⟨d, rfl⟩ : ∃ d, m = k + d := ⟨m - k, by omega⟩
 clear hm
 induction d with
 | zero => exact h
 | succ d ih => exact mergeO_mono N G (k + d) P x y _ ih
section
variable {N : List S48} {G P : List Int} {x y : Int}
theorem mergeO_k (hf : formB N G P = true) (hx : inB P x = true) (hy : inB P y = true) {k : Nat} (hk : 401 ≤ k) : mergeO N G k P x y = some (mergeP N G P x y) := by
 have hl := mayB_len (formB_parts hf).1
 have hs := sets_le (joinP P x y)
 rw [joined_length (inB_joined (formB_parts hf).1 hx hy)] at hs
 obtain ⟨Q, hQ, _⟩ := merge_go (N := N) (G := G) 400 401 P x y hf hx hy (by omega) (by omega)
 unfold mergeP
 rw [hQ]
 exact mergeO_up hQ k hk
theorem merged (hf : formB N G P = true) (hx : inB P x = true) (hy : inB P y = true) : Merged N G P x y (mergeP N G P x y) := by
 have hl := mayB_len (formB_parts hf).1
 have hs := sets_le (joinP P x y)
 rw [joined_length (inB_joined (formB_parts hf).1 hx hy)] at hs
 obtain ⟨Q, hQ, h⟩ := merge_go (N := N) (G := G) 400 401 P x y hf hx hy (by omega) (by omega)
 unfold mergeP
 rw [hQ]
 exact h
end
end Go.Proofs.Ytkidnomkfdnciaa.All
namespace Go.Proofs.Ytkidnomkfdnciaa.All
open Go.RowKit Go.Proofs.YtkidnomkfdnciaaW.PrintWords Go.Proofs.YtkidnomkfdnciaaW.PrintLast Go.Proofs.YtkidnomkfdnciaaW.PrintMore
attribute [local go_sem] max2_int min2_int max_two min_two max_three min_three max_four min_four
set_option linter.unusedVariables false
set_option linter.unusedSimpArgs false
end Go.Proofs.Ytkidnomkfdnciaa.All
namespace Go.Proofs.Ytkidnomkfdnciaa.All
open Go.RowKit Go.Proofs.YtkidnomkfdnciaaW.PrintWords Go.Proofs.YtkidnomkfdnciaaW.PrintLast Go.Proofs.YtkidnomkfdnciaaW.PrintMore
attribute [local go_sem] max2_int min2_int max_two min_two max_three min_three max_four min_four
set_option linter.unusedVariables false
set_option linter.unusedSimpArgs false
def roadbooklaw16_few.f (l0_0 : List (S48)) (l0_1 : List Int) (l0_2 : List Int) (a1 : Int) : Option (Bool) := if (l0_0.length : Int) ≤ a1 then (if (l0_1.length : Int) ≤ a1 then (some (decide ((l0_2.length : Int) ≤ a1))) else (some false)) else (some false)
set_option maxHeartbeats 8000000 in
set_option maxRecDepth 100000 in
theorem roadbooklaw16_few.calls (A0_0 : Option Addr) (c0_0 : Nat) (l0_0 : List (S48)) (A0_1 : Option Addr) (c0_1 : Nat) (l0_1 : List Int) (A0_2 : Option Addr) (c0_2 : Nat) (l0_2 : List Int) (a1 : Int) (r : Bool) (w : World) (hr0_0 : Kd.C k48 w A0_0 l0_0.length l0_0) (hc0_0 : l0_0.length ≤ c0_0) (hr0_1 : Kd.C (Kd.int .i64) w A0_1 l0_1.length l0_1) (hc0_1 : l0_1.length ≤ c0_1) (hr0_2 : Kd.C (Kd.int .i64) w A0_2 l0_2.length l0_2) (hc0_2 : l0_2.length ≤ c0_2) (h : roadbooklaw16_few.f l0_0 l0_1 l0_2 a1 = some r) :
  Calls Try.prog 39 #[.agg #[.slice A0_0 l0_0.length c0_0, .slice A0_1 l0_1.length c0_1, .slice A0_2 l0_2.length c0_2], .int .i64 a1] w fun e w' => e = .returned (.bool r) ∧ Below w.heap.size w w' := by
 have hu38 := Try.underlying38
 have HR0_0 := Aside0.mk hr0_0
 have HC0_0 := Aside0.mk hc0_0
 clear hr0_0 hc0_0
 have HR0_1 := Aside0.mk hr0_1
 have HC0_1 := Aside0.mk hc0_1
 clear hr0_1 hc0_1
 have HR0_2 := Aside0.mk hr0_2
 have HC0_2 := Aside0.mk hc0_2
 clear hr0_2 hc0_2
 have HB := Aside0.mk (Below.refl w.heap.size w)
 have H : (if (l0_0.length : Int) ≤ a1 then (if (l0_1.length : Int) ≤ a1 then (some (decide ((l0_2.length : Int) ≤ a1))) else (some false)) else (some false)) = some r := h
 clear h
 by_cases c3 : (l0_0.length : Int) ≤ a1
 ·rw [if_pos c3] at H
  have c3b0 : decide ((l0_0.length : Int) ≤ a1) = true := decide_eq_true c3
  clear c3
  by_cases c4 : (l0_1.length : Int) ≤ a1
  ·rw [if_pos c4] at H
   have c4b0 : decide ((l0_1.length : Int) ≤ a1) = true := decide_eq_true c4
   clear c4
   obtain rfl := Option.some.inj H
   go_enter Try.func39, Try.ntmps39
   go_wp2_with (((with_reducible refine gate_dst (N := 2) rfl ?_); (try (refine gate_guard (by rfl) ?_; dsimp only)); refine box_event ?hg (N := 2) ?hd (cs := #[.slice A0_0 l0_0.length c0_0, .slice A0_1 l0_1.length c0_1, .slice A0_2 l0_2.length c0_2]) (t := 38) ?hr ?_; (case hd => rfl); (case hg => rfl); (case hr => first | (go_simp; done) ); intro gb11 hg w5 hbox hb; have BK11 := Aside0.mk (hbox); have GW11 := Aside0.mk ((by rw [hg]; exact (below_size (by repeat ((with_reducible first | exact HB.out )))) : w.heap.size ≤ gb11)); have GE11 := Aside0.mk ((by rw [hg]; exact (below_size (by repeat ((with_reducible first | exact HB.out )))) : w.heap.size ≤ gb11)); replace HB := Aside0.mk (below_step (by repeat ((with_reducible first | exact HB.out ))) hb); clear hb hbox hg; obtain ⟨hcz6_0, hcz6_1, hcz6_2, hfz6_0, hfz6_1, hfz6_2⟩ := bk3 BK11.out))
   go_ret
   exact ⟨by rfl, by repeat ((with_reducible first | exact HB.out ))⟩
  ·rw [if_neg c4] at H
   have c4b0 : decide ((l0_1.length : Int) ≤ a1) = false := decide_eq_false c4
   clear c4
   obtain rfl := Option.some.inj H
   go_enter Try.func39, Try.ntmps39
   go_wp2_with (((with_reducible refine gate_dst (N := 2) rfl ?_); (try (refine gate_guard (by rfl) ?_; dsimp only)); refine box_event ?hg (N := 2) ?hd (cs := #[.slice A0_0 l0_0.length c0_0, .slice A0_1 l0_1.length c0_1, .slice A0_2 l0_2.length c0_2]) (t := 38) ?hr ?_; (case hd => rfl); (case hg => rfl); (case hr => first | (go_simp; done) ); intro gb11 hg w7 hbox hb; have BK11 := Aside0.mk (hbox); have GW11 := Aside0.mk ((by rw [hg]; exact (below_size (by repeat ((with_reducible first | exact HB.out )))) : w.heap.size ≤ gb11)); have GE11 := Aside0.mk ((by rw [hg]; exact (below_size (by repeat ((with_reducible first | exact HB.out )))) : w.heap.size ≤ gb11)); replace HB := Aside0.mk (below_step (by repeat ((with_reducible first | exact HB.out ))) hb); clear hb hbox hg; obtain ⟨hcz8_0, hcz8_1, hcz8_2, hfz8_0, hfz8_1, hfz8_2⟩ := bk3 BK11.out))
   go_ret
   exact ⟨by rfl, by repeat ((with_reducible first | exact HB.out ))⟩
 ·rw [if_neg c3] at H
  have c3b0 : decide ((l0_0.length : Int) ≤ a1) = false := decide_eq_false c3
  clear c3
  obtain rfl := Option.some.inj H
  go_enter Try.func39, Try.ntmps39
  go_wp2_with (((with_reducible refine gate_dst (N := 2) rfl ?_); (try (refine gate_guard (by rfl) ?_; dsimp only)); refine box_event ?hg (N := 2) ?hd (cs := #[.slice A0_0 l0_0.length c0_0, .slice A0_1 l0_1.length c0_1, .slice A0_2 l0_2.length c0_2]) (t := 38) ?hr ?_; (case hd => rfl); (case hg => rfl); (case hr => first | (go_simp; done) ); intro gb11 hg w9 hbox hb; have BK11 := Aside0.mk (hbox); have GW11 := Aside0.mk ((by rw [hg]; exact (below_size (by repeat ((with_reducible first | exact HB.out )))) : w.heap.size ≤ gb11)); have GE11 := Aside0.mk ((by rw [hg]; exact (below_size (by repeat ((with_reducible first | exact HB.out )))) : w.heap.size ≤ gb11)); replace HB := Aside0.mk (below_step (by repeat ((with_reducible first | exact HB.out ))) hb); clear hb hbox hg; obtain ⟨hcz10_0, hcz10_1, hcz10_2, hfz10_0, hfz10_1, hfz10_2⟩ := bk3 BK11.out))
  go_ret
  exact ⟨by rfl, by repeat ((with_reducible first | exact HB.out ))⟩
end Go.Proofs.Ytkidnomkfdnciaa.All
namespace Go.Proofs.Ytkidnomkfdnciaa.All
open Go.RowKit Go.Proofs.YtkidnomkfdnciaaW.PrintWords
structure Lim (N : List S48) (G P : List Int) : Prop where
 n : N.length * 32 ≤ 140737488351232
 g : G.length * 8 ≤ 140737488351232
 p : P.length * 8 ≤ 140737488351232
section
variable {N : List S48} {G P : List Int}
theorem Lim.lim3 (h : Lim N G P) : lim3 N G P = true := by
 have h1 := h.n
 have h2 := h.g
 have h3 := h.p
 unfold All.lim3 limN limI
 simp only [Bool.and_eq_true, decide_eq_true_eq]
 omega
theorem form_Lim (h : formB N G P = true) : Lim N G P := by
 obtain ⟨hm, hGN, hNl, _⟩ := formB_parts h
 have := mayB_len hm
 exact ⟨by omega, by omega, by omega⟩
theorem may_form (h : mayMB N G P = true) : formB N G P = true := (mayM_iff.1 h).1
theorem may_closed (h : mayMB N G P = true) : Closed N G P := (mayM_iff.1 h).2
theorem may_P (h : mayMB N G P = true) : mayB P = true := (formB_parts (may_form h)).1
theorem may_Lim (h : mayMB N G P = true) : Lim N G P := form_Lim (may_form h)
theorem may_lenP (h : mayMB N G P = true) : P.length ≤ 400 := mayB_len (may_P h)
theorem may_lenN (h : mayMB N G P = true) : N.length ≤ 400 := (formB_parts (may_form h)).2.2.1
theorem may_lenG (h : mayMB N G P = true) : G.length = N.length := (formB_parts (may_form h)).2.1
end
def mergeT (N : List S48) (G P : List Int) (a b : Int) : List Int × Int × Int :=
 if (mayMB N G P && (inB P a && inB P b)) = true then (mergeP N G P a b, findS (mergeP N G P a b) a, 0) else (P, -1, 1)
structure Mer (N : List S48) (G P : List Int) (a b : Int) : Prop where
 may : mayMB N G P = true
 a : inB P a = true
 b : inB P b = true
theorem mer_cases (N : List S48) (G P : List Int) (a b : Int) : mergeT N G P a b = (P, -1, 1) ∨ (Mer N G P a b ∧ mergeT N G P a b = (mergeP N G P a b, findS (mergeP N G P a b) a, 0)) := by
 unfold mergeT
 by_cases h : (mayMB N G P && (inB P a && inB P b)) = true
 ·rw [if_pos h]
  simp only [Bool.and_eq_true] at h
  exact .inr ⟨⟨h.1, h.2.1, h.2.2⟩, rfl⟩
 ·rw [if_neg h]; exact .inl rfl
theorem Mer.eq {N : List S48} {G P : List Int} {a b : Int} (h : Mer N G P a b) : mergeT N G P a b = (mergeP N G P a b, findS (mergeP N G P a b) a, 0) := by
 unfold mergeT
 rw [h.may, h.a, h.b]
 rfl
section
variable {N : List S48} {G P : List Int} {a b : Int}
theorem merge_k (h : Lim N G P) {k : Nat} (hk : 401 ≤ k) : memo_Merge.f k N G P a b = some (N, G, (mergeT N G P a b).1, (mergeT N G P a b).2.1, (mergeT N G P a b).2.2) := by
 unfold memo_Merge.f mergeT
 by_cases hc : (mayMB N G P && (inB P a && inB P b)) = true
 ·rw [if_pos hc, if_pos hc]
  simp only [Bool.and_eq_true] at hc
  rw [mergeO_k (may_form hc.1) hc.2.1 hc.2.2 hk]
  rfl
 ·rw [if_neg hc, if_neg hc, if_pos h.lim3]
theorem Mer.spec (h : Mer N G P a b) : Merged N G P a b (mergeP N G P a b) := merged (may_form h.may) h.a h.b
theorem Mer.len (h : Mer N G P a b) : (mergeP N G P a b).length = P.length := h.spec.le.len
theorem Mer.after (h : Mer N G P a b) : mayMB N G (mergeP N G P a b) = true := mayM_iff.2 ⟨form_same (may_form h.may) h.spec.may h.len, h.spec.closed⟩
theorem Mer.inB (h : Mer N G P a b) (g : Int) : inB (mergeP N G P a b) g = inB P g := inB_of_len h.len g
theorem Mer.find (h : Mer N G P a b) {g : Int} (hg : All.inB P g = true) : findS (mergeP N G P a b) (findS P g) = findS (mergeP N G P a b) g := h.spec.le.find (may_P h.may) h.spec.may hg
end
section
variable {N : List S48} {G P : List Int} {n : S48}
theorem look_some (h : mayMB N G P = true) (hn : nodeB P n = true) {i : Nat} (hi : i < N.length) (he : canonS (rootsS P) (N.getD i z48) = canonS (rootsS P) n) : lookS N G P n = (findS P (G.getD i 0), true) := by
 unfold lookS
 rw [h, hn]
 simp only [Bool.and_self, if_true]
 obtain ⟨j, hj, hji, hje⟩ := posN_is (cs := canonsS N P) hi
 rw [canons_at N P hi, he] at hj
 rw [hj]
 dsimp only
 rw [canons_at N P hi, canons_at N P (by omega)] at hje
 rw [may_closed h j i (by omega) hi hje]
theorem look_none (h : mayMB N G P = true) (hn : nodeB P n = true) (hno : ∀ i, i < N.length → canonS (rootsS P) (N.getD i z48) ≠ canonS (rootsS P) n) : lookS N G P n = (-1, false) := by
 unfold lookS
 rw [h, hn]
 simp only [Bool.and_self, if_true]
 cases hp : posN (canonsS N P) (canonS (rootsS P) n) N.length with
 | none => rfl
 | some j =>
  obtain ⟨a, b, _⟩ := (posN_spec _ _ _).1 j hp
  rw [canons_at N P a] at b
  exact absurd b (hno j a)
theorem look_no (h : mayMB N G P = false ∨ nodeB P n = false) : lookS N G P n = (-1, false) := by
 unfold lookS
 rw [if_neg]
 rcases h with h | h <;> rw [h] <;> simp
theorem look_cases (N : List S48) (G P : List Int) (n : S48) : (lookS N G P n = (-1, false) ∧ (mayMB N G P = true → nodeB P n = true → ∀ i, i < N.length → canonS (rootsS P) (N.getD i z48) ≠ canonS (rootsS P) n)) ∨
  (mayMB N G P = true ∧ nodeB P n = true ∧ ∃ i, i < N.length ∧ canonS (rootsS P) (N.getD i z48) = canonS (rootsS P) n ∧ lookS N G P n = (findS P (G.getD i 0), true)) := by
 cases hm : mayMB N G P with
 | false => exact .inl ⟨look_no (.inl hm), fun h => by cases h⟩
 | true =>
  cases hn : nodeB P n with
  | false => exact .inl ⟨look_no (.inr hn), fun _ h => by cases h⟩
  | true =>
   cases hp : posN (canonsS N P) (canonS (rootsS P) n) N.length with
   | none =>
    have hno : ∀ i, i < N.length → canonS (rootsS P) (N.getD i z48) ≠ canonS (rootsS P) n := fun i hi => by
     have := (posN_spec _ _ _).2 hp i hi
     rw [canons_at N P hi] at this
     exact this
    exact .inl ⟨look_none hm hn hno, fun _ _ => hno⟩
   | some j =>
    obtain ⟨a, b, _⟩ := (posN_spec _ _ _).1 j hp
    rw [canons_at N P a] at b
    exact .inr ⟨rfl, rfl, j, a, b, look_some hm hn a b⟩
end
def fewB (N : List S48) (G P : List Int) (m : Int) : Bool := decide ((N.length : Int) ≤ m) && (decide ((G.length : Int) ≤ m) && decide ((P.length : Int) ≤ m))
theorem few_k (N : List S48) (G P : List Int) (m : Int) : roadbooklaw16_few.f N G P m = some (fewB N G P m) := by
 unfold roadbooklaw16_few.f fewB
 by_cases h1 : (N.length : Int) ≤ m
 ·by_cases h2 : (G.length : Int) ≤ m
  ·simp [h1, h2]
  ·simp [h1, h2]
 ·simp [h1]
theorem ne48 (x y : S48) : (!((x.f0) == (y.f0)) || (!((x.f1) == (y.f1)) || (!((x.f2) == (y.f2)) || (!((x.f3) == (y.f3)))))) = !decide (x = y) := by
 by_cases h : x = y
 ·subst h; simp
 ·rw [decide_eq_false h]
  obtain ⟨a, b, c, d⟩ := x
  obtain ⟨a', b', c', d'⟩ := y
  dsimp only
  cases h1 : (a == a') with
  | false => rfl
  | true =>
   cases h2 : (b == b') with
   | false => rfl
   | true =>
    cases h3 : (c == c') with
    | false => rfl
    | true =>
     cases h4 : (d == d') with
     | false => rfl
     | true =>
      exfalso
      rw [beq_iff_eq] at h1 h2 h3 h4
      subst h1 h2 h3 h4
      exact h rfl
def sameM (N : List S48) (G P : List Int) (N' : List S48) (G' P' : List Int) : Bool := decide (N = N') && (decide (G = G') && sameB P P')
theorem look_f (N : List S48) (G P : List Int) (n : S48) : memo_Look.f N G P n.f0 n.f1 n.f2 n.f3 = some (lookS N G P n) := rfl
theorem eq48 (x y : S48) : ((x.f0 == y.f0) && ((x.f1 == y.f1) && ((x.f2 == y.f2) && (x.f3 == y.f3)))) = decide (x = y) := by
 have := ne48 x y
 by_cases h : x = y
 ·subst h; simp
 ·rw [decide_eq_false h]
  obtain ⟨a, b, c, d⟩ := x
  obtain ⟨a', b', c', d'⟩ := y
  dsimp only
  rw [Bool.eq_false_iff]
  intro hh
  simp only [Bool.and_eq_true, beq_iff_eq] at hh
  obtain ⟨rfl, rfl, rfl, rfl⟩ := hh
  exact h rfl
end Go.Proofs.Ytkidnomkfdnciaa.All
namespace Go.Proofs.Ytkidnomkfdnciaa.QR
open Go Go.Sort Go.RowKit
def Bel (w w' : World) : Prop := Below w.heap.size w w'
theorem bel {P : Program} {f : FuncId} {args : Array Value} {w : World} {v : Value} (h : Calls P f args w fun e w' => e = .returned v ∧ Below w.heap.size w w') : Calls P f args w fun e w' => e = .returned v ∧ Bel w w' := h
def Yq (P : Program) (w : World) (v : Value) : Result Next → Prop
 | .ok (.value u) w' => w' = w ∧ u = v
 | .ok .skip w' => w' = w ∧ v = undef
 | .ok (.enter f args) w' => w' = w ∧ Calls P f args w (fun e w'' => e = .returned v ∧ Bel w w'')
 | _ => False
def Oq (P : Program) (o : Oper) (a : Act) (C : World → Prop) (next : Act → Prop) : Prop := ∃ v, (∀ w, C w → Yq P w v ((execOp a.eval o).run P w)) ∧ next (a.put o.dst v)
def Txt (P : Program) (ops : Array Oper) (C : World → Prop) (Q : Act → Prop) : List Oper → Act → Prop
 | [], a => Q a
 | o :: r, a => if Region.wanted o (yielded ops a.tmps) then Oq P o a C (Txt P ops C Q r) else Txt P ops C Q r (a.put o.dst undef)
section
variable {P : Program} {ops : Array Oper} {C : World → Prop}
structure Tx (P : Program) (ops : Array Oper) (C : World → Prop) (Q : Act → Prop) (l : List Oper) (a : Act) : Prop where
 out : Txt P ops C Q l a
theorem txt_nil {Q : Act → Prop} {a : Act} (h : Q a) : Tx P ops C Q [] a := ⟨h⟩
theorem txt_step {Q : Act → Prop} {a : Act} {o : Oper} {r : List Oper} (h : ∀ K : Act → Prop, (∀ a, Tx P ops C Q r a → K a) → if Region.wanted o (yielded ops a.tmps) then Oq P o a C K else K (a.put o.dst undef)) : Tx P ops C Q (o :: r) a := ⟨h _ (fun _ h => h.out)⟩
def Lays (P : Program) (ops : Array Oper) (C : World → Prop) (o : Oper) (v : Value) (a : Act) : Prop :=
 (Region.wanted o (yielded ops a.tmps) = true ∧ ∀ w, C w → Yq P w v ((execOp a.eval o).run P w)) ∨ (Region.wanted o (yielded ops a.tmps) = false ∧ v = undef)
def Ups (P : Program) (ops : Array Oper) (C : World → Prop) (i : Nat) (K : Act → Prop) (a : Act) : Prop := ∃ o v, ops[i]? = some o ∧ Lays P ops C o v a ∧ K (a.put o.dst v)
theorem Ups.mono {i : Nat} {K K' : Act → Prop} {a : Act} (h : ∀ a, K a → K' a) : Ups P ops C i K a → Ups P ops C i K' a := fun ⟨o, v, h1, h2, h3⟩ => ⟨o, v, h1, h2, h _ h3⟩
theorem Lays.keep {o : Oper} (hs : ∀ cs b, o.op ≠ .select cs b) {v u : Value} {a : Act} {d : Option Tmp} (hd : ∀ x, d = some x → x ∉ o.looksAt ops) : Lays P ops C o v (a.put d u) ↔ Lays P ops C o v a := by
 unfold Lays
 rw [wanted_put o a d u hd, execOp_put o hs a d u hd]
theorem txt_up {Q : Act → Prop} {a : Act} {o : Oper} {r : List Oper} {i : Nat} (hi : ops[i]? = some o) (h : Txt P ops C Q (o :: r) a) : Ups P ops C i (Txt P ops C Q r) a := by
 unfold Txt at h
 by_cases hw : Region.wanted o (yielded ops a.tmps) = true
 ·rw [if_pos hw] at h
  obtain ⟨v, h1, h2⟩ := h
  exact ⟨o, v, hi, .inl ⟨hw, h1⟩, h2⟩
 ·rw [if_neg hw] at h
  exact ⟨o, undef, hi, .inr ⟨by simpa using hw, rfl⟩, h⟩
def Head (P : Program) (md : Region.Mode) (ops : Array Oper) (C : World → Prop) (n : Nat) (L : Array Bool → Act → Prop) : Nat → Array Bool → Act → Prop
 | 0 => L
 | f + 1 => fun listed a => (∃ i, i ∈ Region.ready md ops listed) ∧ ∀ i, i ∈ Region.ready md ops listed → i < n ∧ Ups P ops C i (Head P md ops C n L f (listed.setIfInBounds i true)) a
variable {md : Region.Mode} {n : Nat} {L : Array Bool → Act → Prop}
theorem ready_lt (hs : Region.sinkB md ops n = true) (hc : Region.chainB md ops n = true) (hn : n < ops.size) {listed : Array Bool} (inv : HeadInv md ops n listed) {i j : Nat} (hin : i < n) (hi : i ∈ Region.ready md ops listed) (hj : j ∈ Region.ready md ops listed) : j < n := by
 rcases Nat.lt_or_ge j n with h | h
 ·exact h
 ·exact absurd hj (tail_waits hs hc hn inv _ i rfl hin (mem_ready.1 hi).1 j h)
theorem Head.first {i : Nat} {oi : Oper} {v : Value} (hi : ops[i]? = some oi) (hsel : ∀ (j : Nat) (o : Oper) cs b, ops[j]? = some o → o.op ≠ .select cs b) (hlt : ∀ listed, HeadInv md ops n listed → ∀ i j, i < n → i ∈ Region.ready md ops listed → j ∈ Region.ready md ops listed → j < n) (hin : i < n)
  (hL : ∀ listed a, L listed a → ∀ j, j ∈ Region.ready md ops listed → n ≤ j) (f : Nat) : ∀ (listed : Array Bool) (a : Act), HeadInv md ops n listed →
   (∀ j oj, ops[j]? = some oj → j ≠ i → listed.getD j true = false → (∀ e ∈ oj.after, Region.binds md e = true → e.on ≠ i) → oi.apart ops oj = true) →
   i ∈ Region.ready md ops listed → Lays P ops C oi v a → Head P md ops C n L f (listed.setIfInBounds i true) (a.put oi.dst v) → Head P md ops C n L (f + 1) listed a := by
 induction f with
 | zero =>
  intro listed a inv _ hr hy H
  refine ⟨⟨i, hr⟩, fun j hj => ⟨hlt _ inv _ _ hin hr hj, ?_⟩⟩
  by_cases e : j = i
  ·rw [e]; exact ⟨oi, v, hi, hy, H⟩
  ·have h1 := hL _ _ H j (ready_mono hj e)
   have h2 := hlt _ inv _ _ hin hr hj
   omega
 | succ f ih =>
  intro listed a inv hfree hr hy H
  refine ⟨⟨i, hr⟩, fun j hj => ?_⟩
  have hjn := hlt _ inv _ _ hin hr hj
  refine ⟨hjn, ?_⟩
  by_cases e : j = i
  ·rw [e]; exact ⟨oi, v, hi, hy, H⟩
  ·obtain ⟨hju, oj, hoj, hw⟩ := mem_ready.1 hj
   have hno : ∀ x ∈ oj.after, Region.binds md x = true → x.on ≠ i := fun x hx hb he => by
    have h1 := hw x hx hb
    rw [he, getD_both (mem_ready.1 hr).1] at h1
    cases h1
   obtain ⟨p1, p2, p3⟩ := Oper.apart_spec (hfree j oj hoj e hju hno)
   obtain ⟨oj', u, hoj', hl, hk⟩ := (H.2 j (ready_mono hj e)).2
   obtain rfl : oj = oj' := by rw [hoj] at hoj'; exact Option.some.inj hoj'
   rw [Lays.keep (fun cs b => hsel j oj cs b hoj) p1] at hl
   refine ⟨oj, u, hoj, hl, ih (listed.setIfInBounds j true) _ (inv.set hj hjn) (fun k ok hk hki hun hn2 => hfree k ok hk hki ?_ hn2) (ready_mono hr (Ne.symm e)) ((Lays.keep (fun cs b => hsel i oi cs b hi) p3).2 hy) ?_⟩
   ·by_cases hjk : j = k
    ·rw [← hjk]; exact hju
    ·rw [getD_set_ne true hjk] at hun; exact hun
   ·rw [Array.setIfInBounds_comm _ _ e, ← Act.put_comm a v u p2]; exact hk
theorem Head.text {g : Nat} {Q : Act → Prop} (hsel : Region.noSelect ops = true) (hlt : ∀ listed, HeadInv md ops n listed → ∀ i j, i < n → i ∈ Region.ready md ops listed → j ∈ Region.ready md ops listed → j < n) (l : List Oper) : ∀ (k : Nat) (listed : Array Bool) (a : Act), (∀ j, j < l.length → l[j]? = ops[k + j]?) → k + l.length = n → HeadInv md ops n listed →
  Region.lexHead md ops g l.length k listed = true → Txt P ops C Q l a → Head P md ops C n (fun listed a => Region.seqB md ops g n listed = true ∧ Q a) l.length listed a := by
 induction l with
 | nil =>
  intro k listed a _ hk _ hB h
  obtain rfl : k = n := hk
  exact ⟨hB, h⟩
 | cons o l ih =>
  intro k listed a hl hk inv hB h
  have h0 : ops[k]? = some o := (hl 0 (Nat.succ_pos _)).symm
  rw [List.length_cons] at hB hk
  simp only [Region.lexHead, Bool.and_eq_true] at hB
  obtain ⟨⟨hr, hf⟩, hB⟩ := hB
  have hr : k ∈ Region.ready md ops listed := by simpa using hr
  have hkn : k < n := by omega
  obtain ⟨o', v, ho', hy, hK⟩ := txt_up h0 h
  obtain rfl : o = o' := by rw [h0] at ho'; exact Option.some.inj ho'
  refine Head.first h0 (Region.noSelect_spec hsel) hlt hkn (fun _ _ hL => seqB_ready hL.1) l.length listed a inv (Region.free_spec h0 hf) hr hy (ih (k + 1) _ _ (fun j hj => ?_) (by omega) (inv.set hr hkn) hB hK)
  have := hl (j + 1) (by rw [List.length_cons]; omega)
  rw [List.getElem?_cons_succ] at this
  rw [this]
  congr 1
  omega
theorem up_wp {o : Oper} {v : Value} {a : Act} {i : Nat} {w : World} {K : Act → World → Prop} {Q : Exit → Act → World → Prop} (hw : C w) (hi : ops[i]? = some o) (hy : Lays P ops C o v a) (h : ∀ w', Below w.heap.size w w' → K (a.put o.dst v) w') : wpOp P ops Q i K a w := by
 unfold wpOp
 simp only [hi]
 rcases hy with ⟨hwt, hy⟩ | ⟨hwt, rfl⟩
 ·rw [if_pos hwt]
  refine .inl ?_
  have hy := hy w hw
  unfold Oper.wp
  generalize (execOp a.eval o).run P w = r at *
  cases r with
  | ok x w' =>
   cases x <;> simp only [Yq] at hy <;> simp only [Oper.upon]
   case value u => obtain ⟨rfl, rfl⟩ := hy; exact h _ (Below.refl _ _)
   case skip => obtain ⟨rfl, rfl⟩ := hy; exact h _ (Below.refl _ _)
   case enter f args =>
    obtain ⟨rfl, hc⟩ := hy
    exact hc.mono fun e w'' ⟨he, hb⟩ => by subst he; exact h _ hb
  | halt x w' => simp only [Yq] at hy
 ·rw [if_neg (by rw [hwt]; decide)]
  exact h _ (Below.refl _ _)
end
structure Twin (P : Program) (ops ops' : Array Oper) (ia : Nat) (N : Tmp) (ob : Obj) : Prop where
 size : ops'.size = ops.size
 same : ∀ j, j ≠ ia → ops'[j]? = ops[j]?
 at_ : ∃ o o', ops[ia]? = some o ∧ ops'[ia]? = some o' ∧ o'.after = o.after ∧ o.dst = some N ∧ o'.dst = some N ∧ (∀ y, Region.wanted o y = true) ∧ ∀ ev (w : World), (execOp ev o).run P w = .ok (.value (.pointer (some ⟨w.heap.size, 0, none⟩))) (w.alloc ob)
section
variable {P : Program} {ops ops' : Array Oper} {ia : Nat} {N : Tmp} {ob : Obj} {C : World → Prop} {md : Region.Mode} {n : Nat} {L : Array Bool → Act → Prop}
theorem Twin.ready (t : Twin P ops ops' ia N ob) (listed : Array Bool) : Region.ready md ops' listed = Region.ready md ops listed := by
 unfold Region.ready
 rw [t.size]
 congr 1
 funext i
 by_cases e : i = ia
 ·subst e
  obtain ⟨o, o', h1, h2, h3, _⟩ := t.at_
  rw [h1, h2]
  simp only [Option.map_some, h3]
 ·rw [t.same i e]
theorem Twin.yielded (t : Twin P ops ops' ia N ob) (tmps : Array Value) : Go.yielded ops' tmps = Go.yielded ops tmps := by
 funext i
 unfold Go.yielded
 by_cases e : i = ia
 ·subst e
  obtain ⟨o, o', h1, h2, _, h4, h5, _⟩ := t.at_
  rw [h1, h2]
  simp only [Option.bind_some, h4, h5]
 ·rw [t.same i e]
theorem Twin.lays (t : Twin P ops ops' ia N ob) {o : Oper} {v : Value} {a : Act} : Lays P ops' C o v a ↔ Lays P ops C o v a := by
 unfold Lays
 rw [t.yielded]
def Rel (ia : Nat) (N : Tmp) (ob : Obj) (base : Nat) (listed : Array Bool) (am ar : Act) (w : World) : Prop :=
 (listed.getD ia true = true ∧ ∃ gb, ar = am.put (some N) (.pointer (some ⟨gb, 0, none⟩)) ∧ w.heap[gb]? = some ob ∧ base ≤ gb) ∨ (listed.getD ia true = false ∧ ar = am)
theorem put_put (a : Act) (N : Tmp) (u v : Value) : (a.put (some N) u).put (some N) v = a.put (some N) v := by
 simp [Act.put]
theorem Twin.run (t : Twin P ops ops' ia N ob) {base g : Nat} {Q : Exit → Act → World → Prop} (hC : ∀ w w', C w → Below w.heap.size w w' → C w') (hb : ∀ w, C w → base ≤ w.heap.size) (hsel : ∀ (j : Nat) (o : Oper) cs b, ops[j]? = some o → o.op ≠ .select cs b)
  (hap : ∀ j o, ops[j]? = some o → j ≠ ia → j < n → N ∉ o.looksAt ops ∧ o.dst ≠ some N)
  (hL : ∀ listed am, HeadInv md ops' n listed → L listed am → listed.getD ia true = true ∧ ∀ gb w, C w → w.heap[gb]? = some ob → base ≤ gb → wpAny P md ops Q g listed (am.put (some N) (.pointer (some ⟨gb, 0, none⟩))) w) (f : Nat) :
  ∀ (listed : Array Bool) (am ar : Act) (w : World), C w → HeadInv md ops' n listed → Rel ia N ob base listed am ar w → Head P md ops' C n L f listed am → wpAny P md ops Q (f + g) listed ar w := by
 induction f with
 | zero =>
  intro listed am ar w hw inv hR h
  rw [Nat.zero_add]
  obtain ⟨h1, h2⟩ := hL listed am inv h
  rcases hR with ⟨_, gb, rfl, h3, h4⟩ | ⟨h3, _⟩
  ·exact h2 gb w hw h3 h4
  ·rw [h1] at h3; cases h3
 | succ f ih =>
  intro listed am ar w hw inv hR ⟨⟨i0, h0⟩, h⟩
  rw [Nat.succ_add]
  refine ⟨fun e => absurd h0 (by rw [t.ready, e]; exact List.not_mem_nil), fun i hi => ?_⟩
  rw [← t.ready] at hi
  obtain ⟨hin, o, v, ho, hy, hK⟩ := h i hi
  have hun := (mem_ready.1 hi).1
  by_cases e : i = ia
  ·subst e
   obtain ⟨q, q', h1, h2, h3, h4, h5, h6, h7⟩ := t.at_
   obtain rfl : q' = o := by rw [h2] at ho; exact Option.some.inj ho
   rcases hR with ⟨hR, _⟩ | ⟨_, rfl⟩
   ·rw [hR] at hun; cases hun
   ·unfold wpOp
    simp only [h1]
    rw [if_pos (h6 _)]
    refine .inl ?_
    unfold Oper.wp
    rw [h7]
    simp only [Oper.upon]
    rw [h4]
    rw [h5] at hK
    have hbl := (Below.refl w.heap.size w).alloc (Nat.le_refl _) ob
    refine ih _ _ _ _ (hC _ _ hw hbl) (inv.set hi hin) (.inl ⟨?_, w.heap.size, (put_put _ _ _ _).symm, heap_alloc_new w ob, hb w hw⟩) hK
    rcases Nat.lt_or_ge i listed.size with h' | h'
    ·simp [h']
    ·simp [Array.getElem?_eq_none h'] at hun
  ·have hoj : ops[i]? = some o := by rw [← t.same i e]; exact ho
   have hy := t.lays.1 hy
   rcases hR with ⟨hR, gb, rfl, h3, h4⟩ | ⟨hR, rfl⟩
   ·obtain ⟨p1, p2⟩ := hap i o hoj e hin
    refine up_wp hw hoj ((Lays.keep (fun cs b => hsel i o cs b hoj) (fun x hx => by injection hx with hx; subst hx; exact p1)).2 hy) (fun w' hb' => ?_)
    rw [Act.put_comm am (x := some N) (y := o.dst) _ _ (fun d hd => by injection hd with hd; subst hd; exact p2)]
    exact ih _ _ _ _ (hC _ _ hw hb') (inv.set hi hin) (.inl ⟨by rw [getD_set_ne true e]; exact hR, gb, rfl, (hb'.block gb (Array.getElem?_eq_some_iff.1 h3).1).trans h3, h4⟩) hK
   ·refine up_wp hw hoj hy (fun w' hb' => ?_)
    exact ih _ _ _ _ (hC _ _ hw hb') (inv.set hi hin) (.inr ⟨by rw [getD_set_ne true e]; exact hR, rfl⟩) hK
end
def Cls (w : World) (w' : World) : Prop := ∃ p : Regrown, w' = grow (redrawn w p.d) p.os
theorem Cls.below {w w' : World} : Cls w w' → Below w.heap.size w w' := fun ⟨p, h⟩ => h ▸ below_regrown w p.d p.os
theorem Cls.of {w w' : World} (h : Below w.heap.size w w') : Cls w w' := regrown_of_below h
theorem Cls.step {w w1 w2 : World} (h : Cls w w1) (hb : Below w1.heap.size w1 w2) : Cls w w2 := Cls.of (h.below.trans (hb.mono h.below.size))
theorem Cls.drawn (w : World) : Cls w { w with drawn := w.drawn + 1 } := ⟨⟨w.drawn + 1, #[]⟩, by rw [grow_empty]; rfl⟩
section
variable {P : Program} {id : Nat} {Q : Exit → Act → World → Prop} {a : Act} {w : World} {l : List Oper}
theorem Head.run {ops : Array Oper} {md : Region.Mode} {n g : Nat} {L : Array Bool → Act → Prop} {C : World → Prop} (hC : ∀ w w', C w → Below w.heap.size w w' → C w') (hL : ∀ listed a w, C w → L listed a → wpAny P md ops Q g listed a w) (f : Nat) : ∀ (listed : Array Bool) (a : Act) (w : World), C w → Head P md ops C n L f listed a → wpAny P md ops Q (f + g) listed a w := by
 induction f with
 | zero => intro listed a w hw h; rw [Nat.zero_add]; exact hL listed a w hw h
 | succ f ih =>
  intro listed a w hw ⟨⟨i0, h0⟩, h⟩
  rw [Nat.succ_add]
  refine ⟨fun e => absurd h0 (by rw [e]; exact List.not_mem_nil), fun i hi => ?_⟩
  obtain ⟨_, o, v, ho, hy, hK⟩ := h i hi
  exact up_wp hw ho hy (fun w' hb => ih _ _ _ (hC _ _ hw hb) hK)
theorem inv0 (l : List Oper) (n : Nat) : HeadInv .any l.toArray n (Array.replicate l.toArray.size false) := ⟨by simp, fun j oj _ hl => (by rw [getD_replicate_false] at hl; cases hl), fun t _ ht => getD_in (by simpa using ht) (getD_replicate_false _ _)⟩
theorem region (n : Nat) (hm : P.follows .mixedOrders = true) (hB : Region.lexTailB .any l.toArray n = true)
  (h : Tx P l.toArray (Cls w) (fun a' => ∀ w', Cls w w' → wpList P l.toArray Q (l.drop n) a' w') (l.take n) a) : (Code.region id l.toArray true).wp P Q a w := by
 simp only [Region.lexTailB, Bool.and_eq_true, decide_eq_true_eq] at hB
 obtain ⟨⟨⟨⟨hsel, hn⟩, hs⟩, hc⟩, hlex⟩ := hB
 have hlen : (l.take n).length = n := by simp at hn ⊢; omega
 have hdrop : (l.drop n).length = l.toArray.size - n := by simp
 have H := Head.text (md := .any) (g := l.toArray.size - n) hsel (fun _ inv _ _ => ready_lt hs hc hn inv) (l.take n) 0 _ a (fun j hj => by
  rw [hlen] at hj; simp [hj]) (by rw [hlen, Nat.zero_add]) (inv0 l n) (by rw [hlen]; exact hlex) h.out
 have R := Head.run (Q := Q) (g := l.toArray.size - n) (fun _ _ h hb => Cls.step h hb) (fun listed a' w' hw' hL => by
  have h2 := wpAny_of_seq (md := .any) (Q' := Q) (l.drop n) n listed a' w' (fun j => by simp [List.getElem?_drop]) (by rw [hdrop]; exact hL.1) (hL.2 w' hw')
  rw [hdrop] at h2
  exact h2) _ _ _ _ (Cls.drawn w) H
 rw [hlen, show n + (l.toArray.size - n) = l.toArray.size by omega] at R
 exact wp_region_any hm R
theorem region_all (hm : P.follows .mixedOrders = true) (hB : (Region.noSelect l.toArray && Region.lexHead .any l.toArray 0 l.length 0 (Array.replicate l.toArray.size false)) = true)
  (h : Tx P l.toArray (Cls w) (fun a' => ∀ w', Cls w w' → Q .normal a' w') l a) : (Code.region id l.toArray true).wp P Q a w := by
 simp only [Bool.and_eq_true] at hB
 have H := Head.text (md := .any) (n := l.length) (g := 0) hB.1 (fun listed _ i j _ _ hj => by
  have := (List.mem_filter.1 hj).1
  simpa using this) l 0 _ a (fun j hj => by simp) (Nat.zero_add _) (inv0 l l.length) hB.2 h.out
 have R := Head.run (Q := Q) (g := 0) (fun _ _ h hb => Cls.step h hb) (fun listed a' w' hw' hL => ⟨by simpa [Region.seqB] using hL.1, hL.2 w' hw'⟩) _ _ _ _ (Cls.drawn w) H
 refine wp_region_any hm ?_
 simpa using R
def still (o : Oper) : Oper := { o with op := .move (.const undef) }
def apartB (ops : Array Oper) (n ia : Nat) (N : Tmp) : Bool := (List.range n).all fun j => j == ia || (match ops[j]? with | some o => !(o.looksAt ops).contains N && o.dst != some N | none => true)
theorem region_alloc (n ia : Nat) (N : Tmp) (o : Oper) (t : TypeId) (ob : Obj) (hm : P.follows .mixedOrders = true) (ho : l[ia]? = some o) (hop : o.op = .alloc t) (hdst : o.dst = some N) (hgd : o.guard = none) (hian : ia < n)
  (hrun : ∀ ev (w : World), (execOp ev o).run P w = .ok (.value (.pointer (some ⟨w.heap.size, 0, none⟩))) (w.alloc ob))
  (hB : Region.lexTailB .any (l.set ia (still o)).toArray n = true) (hA : apartB l.toArray n ia N = true)
  (h : Tx P (l.set ia (still o)).toArray (Cls w) (fun a' => ∀ gb, w.heap.size ≤ gb → ∀ w', Cls w w' → w'.heap[gb]? = some ob → wpList P l.toArray Q (l.drop n) (a'.put (some N) (.pointer (some ⟨gb, 0, none⟩))) w') ((l.set ia (still o)).take n) a) : (Code.region id l.toArray true).wp P Q a w := by
 have hil : ia < l.length := (List.getElem?_eq_some_iff.1 ho).1
 have tw : Twin P l.toArray (l.set ia (still o)).toArray ia N ob := by
  refine ⟨by simp, fun j hj => ?_, o, still o, by simpa using ho, by simp [hil], rfl, hdst, hdst, fun y => ?_, hrun⟩
  ·simp only [List.getElem?_toArray]
   exact List.getElem?_set_ne (Ne.symm hj)
  ·unfold Region.wanted; rw [hgd]
 simp only [Region.lexTailB, Bool.and_eq_true, decide_eq_true_eq] at hB
 obtain ⟨⟨⟨⟨hsel, hn⟩, hs⟩, hc⟩, hlex⟩ := hB
 have hn' : n < l.length := by simpa using hn
 have hlen : ((l.set ia (still o)).take n).length = n := by simp; omega
 have hsz : (l.set ia (still o)).toArray.size = l.length := by simp
 have H := Head.text (md := .any) (g := (l.set ia (still o)).toArray.size - n) hsel (fun _ inv _ _ => ready_lt hs hc hn inv) ((l.set ia (still o)).take n) 0 _ a (fun j hj => by
  rw [hlen] at hj
  rw [List.getElem?_take_of_lt hj, Nat.zero_add, List.getElem?_toArray]) (by rw [hlen, Nat.zero_add]) (inv0 _ n) (by rw [hlen]; exact hlex) h.out
 have hsel' : ∀ (j : Nat) (q : Oper) cs b, l.toArray[j]? = some q → q.op ≠ .select cs b := fun j q cs b hq => by
  by_cases e : j = ia
  ·subst e
   have : q = o := by
    rw [List.getElem?_toArray, ho] at hq
    exact (Option.some.inj hq).symm
   rw [this, hop]
   intro e; cases e
  ·exact Region.noSelect_spec hsel j q cs b (by rw [tw.same j e]; exact hq)
 have hap : ∀ j q, l.toArray[j]? = some q → j ≠ ia → j < n → N ∉ q.looksAt l.toArray ∧ q.dst ≠ some N := fun j q hq hj hjn => by
  have := List.all_eq_true.1 hA j (List.mem_range.2 hjn)
  rw [hq] at this
  simp only [Bool.or_eq_true, beq_iff_eq, hj, false_or, Bool.and_eq_true, Bool.not_eq_true', bne_iff_ne] at this
  exact ⟨fun hm => by have := this.1; simp [hm] at this, this.2⟩
 have R := tw.run (base := w.heap.size) (g := l.length - n) (Q := Q) (L := fun listed a' => Region.seqB .any (l.set ia (still o)).toArray (l.length - n) n listed = true ∧ ∀ gb, w.heap.size ≤ gb → ∀ w', Cls w w' → w'.heap[gb]? = some ob → wpList P l.toArray Q (l.drop n) (a'.put (some N) (.pointer (some ⟨gb, 0, none⟩))) w') (md := .any) (n := n) (fun _ _ h hb => Cls.step h hb) (fun w' h => h.below.size) hsel' hap (fun listed am inv hL => by
  have hrd : n ∈ Region.ready .any (l.set ia (still o)).toArray listed := by
   obtain ⟨q, hq⟩ : ∃ q, l.length - n = q + 1 := ⟨l.length - n - 1, by omega⟩
   have h1 := hL.1
   rw [hq] at h1
   simp only [Region.seqB, Bool.and_eq_true, decide_eq_true_eq] at h1
   rw [h1.1]; exact List.mem_singleton.2 rfl
  refine ⟨?_, fun gb w' hw' hg hbg => ?_⟩
  ·cases hun : listed.getD ia true with
   | true => rfl
   | false => exact absurd hrd (tail_waits hs hc hn inv _ ia rfl hian hun n (Nat.le_refl _))
  ·have h2 := wpAny_of_seq (md := .any) (Q' := Q) (P := P) (ops := l.toArray) (l.drop n) n listed (am.put (some N) (.pointer (some ⟨gb, 0, none⟩))) w' (fun j => by simp [List.getElem?_drop]) ?_ (hL.2 gb hbg w' hw' hg)
   ·simpa using h2
   ·have h1 := hL.1
    have : ∀ (g k : Nat) (li : Array Bool), Region.seqB .any l.toArray g k li = Region.seqB .any (l.set ia (still o)).toArray g k li := fun g => by
     induction g with
     | zero => intro k li; simp only [Region.seqB, tw.ready]
     | succ g ih => intro k li; simp only [Region.seqB, tw.ready, ih]
    rw [this]
    simpa using h1) n _ a a _ (Cls.drawn w) (inv0 _ n) (.inr ⟨by rw [getD_in (by simpa using hil) (getD_replicate_false _ _)], rfl⟩) (by rw [hsz, hlen] at H; rw [hsz]; exact H)
 rw [show n + (l.length - n) = l.length by omega] at R
 refine wp_region_any hm ?_
 simpa using R
end
end Go.Proofs.Ytkidnomkfdnciaa.QR
