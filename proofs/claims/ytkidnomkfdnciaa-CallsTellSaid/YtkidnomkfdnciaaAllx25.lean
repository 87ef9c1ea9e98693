/- The document's functions on memos: contracts (Put). -/
import Derived.Test.YtkidnomkfdnciaaR16D
import Derived.Test.YtkidnomkfdnciaaSets2
import Derived.Test.YtkidnomkfdnciaaBk
namespace Go.Proofs.Ytkidnomkfdnciaa.All
open Go.RowKit Go.Proofs.YtkidnomkfdnciaaW.PrintWords Go.Proofs.YtkidnomkfdnciaaW.PrintLast Go.Proofs.YtkidnomkfdnciaaW.PrintMore
attribute [local go_sem] QR.Oq QR.Yq QR.Cls
set_option linter.unusedVariables false
set_option linter.unusedSimpArgs false
section
variable {w : World} {AN AG AP : Option Addr} {cN cG cP : Nat} {N : List S48} {G P : List Int}
theorem memo_last {w W : World} {b cR : Nat} {A : Option Addr} {R : List Int} (h0 : MemoAt w AN cN N AG cG G AP cP P) (hb : Below w.heap.size w W) (hz : W.heap[b]? = some (.cells #[.slice none 0 0, .slice none 0 0, .slice none 0 0] 38 (0, 0))) (hw : w.heap.size ≤ b) (hq : Kd.C (Kd.int .i64) W A R.length R) (hc : R.length ≤ cR) :
  MemoAt (((W.setCell ⟨b, 0, none⟩ (.slice AN N.length cN)).setCell ⟨b, 1, none⟩ (.slice AG G.length cG)).setCell ⟨b, 2, none⟩ (.slice A R.length cR)) AN cN N AG cG G A cR R ∧
  Below w.heap.size w (((W.setCell ⟨b, 0, none⟩ (.slice AN N.length cN)).setCell ⟨b, 1, none⟩ (.slice AG G.length cG)).setCell ⟨b, 2, none⟩ (.slice A R.length cR)) := by
 have hb' := below_set (j := 2) (v := .slice A R.length cR) (below_set (j := 1) (v := .slice AG G.length cG) (below_set (j := 0) (v := .slice AN N.length cN) hb hw) hw) hw
 have t1 := blk_put hz 0 (.slice AN N.length cN) rfl
 have t2 := blk_put t1 1 (.slice AG G.length cG) rfl
 refine ⟨⟨Kd.C_below h0.n hb', h0.nc, Kd.C_below h0.g hb', h0.gc, ?_, hc⟩, hb'⟩
 exact C_set_int (C_set_int (C_set_int hq ((blk_cell hz 0).trans rfl) (fun z e => by cases e)) ((blk_cell t1 1).trans rfl) (fun z e => by cases e)) ((blk_cell t2 2).trans rfl) (fun z e => by cases e)
set_option maxHeartbeats 16000000 in
set_option maxRecDepth 100000 in
theorem rput_no (n : S48) (g : Int) (h : MemoAt w AN cN N AG cG G AP cP P) (hno : mayMB N G P = false ∨ mayMB N G P = true ∧ (nodeB P n = false ∨ nodeB P n = true ∧ (g < -1 ∨ ¬ g < -1 ∧ (P.length : Int) ≤ g))) : Calls Try.prog 48 #[.agg #[.slice AN N.length cN, .slice AG G.length cG, .slice AP P.length cP], .agg #[.bool n.f0, .int .i64 n.f1, .int .i64 n.f2, .int .i64 n.f3], .int .i64 g] w fun e w' => e = .returned (.tuple #[.agg #[.slice AN N.length cN, .slice AG G.length cG, .slice AP P.length cP], .int .i64 (-1), .int .i64 1]) ∧ Below w.heap.size w w' := by
 obtain ⟨hx, hy, hz, hb⟩ := box3_new w AN cN N AG cG G AP cP P (.cells #[.bool n.f0, .int .i64 n.f1, .int .i64 n.f2, .int .i64 n.f3] 48) (.cells #[.slice none 0 0, .slice none 0 0, .slice none 0 0] 38)
 have HB := Aside0.mk hb
 have HX := Aside0.mk hx
 have HY := Aside0.mk (show NBox _ _ n from hy)
 have HZ := Aside0.mk hz
 have HM := Aside0.mk (rmay_at (h.below hb))
 have HN := Aside0.mk (fun (W : World) (h : MemoAt W AN cN N AG cG G AP cP P) => rnode_at n h)
 have HH := Aside0.mk (h.below hb)
 have HG := Aside0.mk (show w.heap.size ≤ w.heap.size + 2 by omega)
 have hm := h.p.2.1
 clear h hb hx hy hz
 obtain ⟨vm, hvm⟩ : ∃ v, v = mayMB N G P := ⟨_, rfl⟩
 obtain ⟨vn, hvn⟩ : ∃ v, v = nodeB P n := ⟨_, rfl⟩
 rw [← hvm] at HM hno
 rw [← hvn] at HN hno
 clear hvm hvn
 rcases hno with rfl | ⟨rfl, rfl | ⟨rfl, h1 | ⟨h1, h2⟩⟩⟩
 all_goals
  go_enter Try.func48, Try.ntmps48
  go_wp2_with (first | (go_at_call 52; refine HM.out.mono ?_; rintro e w1 ⟨rfl, hb1⟩; have HB1 := Aside0.mk hb1; obtain ⟨ha0, ha1, ha2⟩ := (HX.out.below hb1).cells; obtain ⟨hy0, hy1, hy2, hy3⟩ := (HY.out.below hb1).cells; clear hb1) | (go_at_call 81; refine (HN.out _ (HH.out.below HB1.out)).mono ?_; rintro e w2 ⟨rfl, hb2⟩; have HB2 := Aside0.mk (HB1.out.trans (hb2.mono HB1.out.size)); clear hb2; obtain ⟨hc0, hc1, hc2⟩ := (HX.out.below HB2.out).cells; obtain ⟨hz0, hz1, hz2, hf0, hf1, hf2⟩ := bk3 (blk_below HZ.out HB2.out)))
  exact bodyPost_ret (results_ctt rfl _ _ (w.heap.size + 2) 38 #[.slice AN N.length cN, .slice AG G.length cG, .slice AP P.length cP] (0, 0) _ rfl (kP (blk_below HZ.out HB2.out)) Try.underlying38 rfl (by kernel_rfl)) rfl ⟨rfl, below_set (below_set (below_set (below_then HB.out HB.out.size HB2.out) HG.out) HG.out) HG.out⟩
set_option maxHeartbeats 16000000 in
set_option maxRecDepth 100000 in
theorem rput_has (n : S48) (g x : Int) (h : MemoAt w AN cN N AG cG G AP cP P) (h1 : mayMB N G P = true) (h2 : nodeB P n = true) (h3 : g = -1 ∨ inB P g = true ∧ findS P g = x) (hl : lookS N G P n = (x, true)) : Calls Try.prog 48 #[.agg #[.slice AN N.length cN, .slice AG G.length cG, .slice AP P.length cP], .agg #[.bool n.f0, .int .i64 n.f1, .int .i64 n.f2, .int .i64 n.f3], .int .i64 g] w fun e w' => e = .returned (.tuple #[.agg #[.slice AN N.length cN, .slice AG G.length cG, .slice AP P.length cP], .int .i64 x, .int .i64 0]) ∧ Below w.heap.size w w' := by
 obtain ⟨hx, hy, hz, hb⟩ := box3_new w AN cN N AG cG G AP cP P (.cells #[.bool n.f0, .int .i64 n.f1, .int .i64 n.f2, .int .i64 n.f3] 48) (.cells #[.slice none 0 0, .slice none 0 0, .slice none 0 0] 38)
 have HB := Aside0.mk hb
 have HX := Aside0.mk hx
 have HY := Aside0.mk (show NBox _ _ n from hy)
 have HZ := Aside0.mk hz
 have HM := Aside0.mk (rmay_at (h.below hb))
 have HN := Aside0.mk (fun (W : World) (h : MemoAt W AN cN N AG cG G AP cP P) => rnode_at n h)
 have HL := Aside0.mk (fun (W : World) (h : MemoAt W AN cN N AG cG G AP cP P) => rlook_at n h)
 have HF := Aside0.mk (fun (W : World) (h : MemoAt W AN cN N AG cG G AP cP P) => rfind_at g h)
 have HH := Aside0.mk (h.below hb)
 have HG := Aside0.mk (show w.heap.size ≤ w.heap.size + 2 by omega)
 have hm := h.p.2.1
 rw [h1] at HM
 rw [h2] at HN
 rw [hl] at HL
 clear h hb hx hy hz h1 h2 hl
 rcases h3 with rfl | ⟨h3, h4⟩
 ·clear HF
  go_enter Try.func48, Try.ntmps48
  go_wp2_with (first | (go_at_call 51; refine (HL.out _ (HH.out.below HB2.out)).mono ?_; rintro e w3 ⟨rfl, hb3⟩; have HB3 := Aside0.mk (HB2.out.trans (hb3.mono HB2.out.size)); clear hb3; obtain ⟨hd0, hd1, hd2⟩ := (HX.out.below HB3.out).cells; obtain ⟨hz0, hz1, hz2, hf0, hf1, hf2⟩ := bk3 (blk_below HZ.out HB3.out)) | (go_at_call 81; refine (HN.out _ (HH.out.below HB1.out)).mono ?_; rintro e w2 ⟨rfl, hb2⟩; have HB2 := Aside0.mk (HB1.out.trans (hb2.mono HB1.out.size)); clear hb2; obtain ⟨hc0, hc1, hc2⟩ := (HX.out.below HB2.out).cells; obtain ⟨hw0, hw1, hw2, hw3⟩ := (HY.out.below HB2.out).cells) | (go_at_call 52; refine HM.out.mono ?_; rintro e w1 ⟨rfl, hb1⟩; have HB1 := Aside0.mk hb1; obtain ⟨ha0, ha1, ha2⟩ := (HX.out.below hb1).cells; obtain ⟨hy0, hy1, hy2, hy3⟩ := (HY.out.below hb1).cells; clear hb1))
  exact bodyPost_ret (results_ctt rfl _ _ (w.heap.size + 2) 38 #[.slice AN N.length cN, .slice AG G.length cG, .slice AP P.length cP] (0, 0) _ rfl (kP (blk_below HZ.out HB3.out)) Try.underlying38 rfl (by kernel_rfl)) rfl ⟨rfl, below_set (below_set (below_set (below_then HB.out HB.out.size HB3.out) HG.out) HG.out) HG.out⟩
 ·rw [h4] at HF
  have l1 := inB_iff.1 h3
  have l2 : ¬ g < -1 := by omega
  have l3 : ¬ (P.length : Int) ≤ g := by omega
  have l4 : g ≠ -1 := by omega
  clear h3 h4
  go_enter Try.func48, Try.ntmps48
  go_wp2_with (first | (go_at_call 53; refine (HF.out _ (HH.out.below HB3.out)).mono ?_; rintro e w4 ⟨rfl, hb4⟩; have HB4 := Aside0.mk (HB3.out.trans (hb4.mono HB3.out.size)); clear hb4; obtain ⟨he0, he1, he2⟩ := (HX.out.below HB4.out).cells; obtain ⟨hz0, hz1, hz2, hf0, hf1, hf2⟩ := bk3 (blk_below HZ.out HB4.out)) | (go_at_call 51; refine (HL.out _ (HH.out.below HB2.out)).mono ?_; rintro e w3 ⟨rfl, hb3⟩; have HB3 := Aside0.mk (HB2.out.trans (hb3.mono HB2.out.size)); clear hb3; obtain ⟨hd0, hd1, hd2⟩ := (HX.out.below HB3.out).cells) | (go_at_call 81; refine (HN.out _ (HH.out.below HB1.out)).mono ?_; rintro e w2 ⟨rfl, hb2⟩; have HB2 := Aside0.mk (HB1.out.trans (hb2.mono HB1.out.size)); clear hb2; obtain ⟨hc0, hc1, hc2⟩ := (HX.out.below HB2.out).cells; obtain ⟨hw0, hw1, hw2, hw3⟩ := (HY.out.below HB2.out).cells) | (go_at_call 52; refine HM.out.mono ?_; rintro e w1 ⟨rfl, hb1⟩; have HB1 := Aside0.mk hb1; obtain ⟨ha0, ha1, ha2⟩ := (HX.out.below hb1).cells; obtain ⟨hy0, hy1, hy2, hy3⟩ := (HY.out.below hb1).cells; clear hb1))
  exact bodyPost_ret (results_ctt rfl _ _ (w.heap.size + 2) 38 #[.slice AN N.length cN, .slice AG G.length cG, .slice AP P.length cP] (0, 0) _ rfl (kP (blk_below HZ.out HB4.out)) Try.underlying38 rfl (by kernel_rfl)) rfl ⟨rfl, below_set (below_set (below_set (below_then HB.out HB.out.size HB4.out) HG.out) HG.out) HG.out⟩
set_option maxHeartbeats 16000000 in
set_option maxRecDepth 100000 in
theorem rput_full (n : S48) (g x : Int) (h : MemoAt w AN cN N AG cG G AP cP P) (h1 : mayMB N G P = true) (h2 : nodeB P n = true) (h3 : g = -1 ∨ inB P g = true) (hl : lookS N G P n = (x, false)) (hf : N.length = 400 ∨ N.length ≠ 400 ∧ (g = -1 ∧ P.length = 400)) : Calls Try.prog 48 #[.agg #[.slice AN N.length cN, .slice AG G.length cG, .slice AP P.length cP], .agg #[.bool n.f0, .int .i64 n.f1, .int .i64 n.f2, .int .i64 n.f3], .int .i64 g] w fun e w' => e = .returned (.tuple #[.agg #[.slice AN N.length cN, .slice AG G.length cG, .slice AP P.length cP], .int .i64 (-1), .int .i64 3]) ∧ Below w.heap.size w w' := by
 obtain ⟨hx, hy, hz, hb⟩ := box3_new w AN cN N AG cG G AP cP P (.cells #[.bool n.f0, .int .i64 n.f1, .int .i64 n.f2, .int .i64 n.f3] 48) (.cells #[.slice none 0 0, .slice none 0 0, .slice none 0 0] 38)
 have HB := Aside0.mk hb
 have HX := Aside0.mk hx
 have HY := Aside0.mk (show NBox _ _ n from hy)
 have HZ := Aside0.mk hz
 have HM := Aside0.mk (rmay_at (h.below hb))
 have HN := Aside0.mk (fun (W : World) (h : MemoAt W AN cN N AG cG G AP cP P) => rnode_at n h)
 have HL := Aside0.mk (fun (W : World) (h : MemoAt W AN cN N AG cG G AP cP P) => rlook_at n h)
 have HH := Aside0.mk (h.below hb)
 have HG := Aside0.mk (show w.heap.size ≤ w.heap.size + 2 by omega)
 have hm := h.p.2.1
 rw [h1] at HM
 rw [h2] at HN
 rw [hl] at HL
 have l1 := may_lenN h1
 have l5 : ¬ g < -1 := by rcases h3 with h3 | h3; omega; have := inB_iff.1 h3; omega
 have l3 : ¬ (P.length : Int) ≤ g := by rcases h3 with h3 | h3; omega; have := inB_iff.1 h3; omega
 clear h hb hx hy hz h1 h2 hl h3
 rcases hf with hf | ⟨hf, rfl, hg⟩
 ·have e1 : (400 : Int) ≤ (N.length : Int) := by omega
  clear hf
  go_enter Try.func48, Try.ntmps48
  go_wp2_with (first | (go_at_call 51; refine (HL.out _ (HH.out.below HB2.out)).mono ?_; rintro e w3 ⟨rfl, hb3⟩; have HB3 := Aside0.mk (HB2.out.trans (hb3.mono HB2.out.size)); clear hb3; obtain ⟨hd0, hd1, hd2⟩ := (HX.out.below HB3.out).cells; obtain ⟨hz0, hz1, hz2, hf0, hf1, hf2⟩ := bk3 (blk_below HZ.out HB3.out)) | (go_at_call 81; refine (HN.out _ (HH.out.below HB1.out)).mono ?_; rintro e w2 ⟨rfl, hb2⟩; have HB2 := Aside0.mk (HB1.out.trans (hb2.mono HB1.out.size)); clear hb2; obtain ⟨hc0, hc1, hc2⟩ := (HX.out.below HB2.out).cells; obtain ⟨hw0, hw1, hw2, hw3⟩ := (HY.out.below HB2.out).cells) | (go_at_call 52; refine HM.out.mono ?_; rintro e w1 ⟨rfl, hb1⟩; have HB1 := Aside0.mk hb1; obtain ⟨ha0, ha1, ha2⟩ := (HX.out.below hb1).cells; obtain ⟨hy0, hy1, hy2, hy3⟩ := (HY.out.below hb1).cells; clear hb1))
  exact bodyPost_ret (results_ctt rfl _ _ (w.heap.size + 2) 38 #[.slice AN N.length cN, .slice AG G.length cG, .slice AP P.length cP] (0, 0) _ rfl (kP (blk_below HZ.out HB3.out)) Try.underlying38 rfl (by kernel_rfl)) rfl ⟨rfl, below_set (below_set (below_set (below_then HB.out HB.out.size HB3.out) HG.out) HG.out) HG.out⟩
 ·have e1 : ¬ (400 : Int) ≤ (N.length : Int) := by omega
  have e2 : (400 : Int) ≤ (P.length : Int) := by omega
  clear hf hg l5 l3 l1
  go_enter Try.func48, Try.ntmps48
  go_wp2_with (first | (go_at_call 51; refine (HL.out _ (HH.out.below HB2.out)).mono ?_; rintro e w3 ⟨rfl, hb3⟩; have HB3 := Aside0.mk (HB2.out.trans (hb3.mono HB2.out.size)); clear hb3; obtain ⟨hd0, hd1, hd2⟩ := (HX.out.below HB3.out).cells; obtain ⟨hz0, hz1, hz2, hf0, hf1, hf2⟩ := bk3 (blk_below HZ.out HB3.out)) | (go_at_call 81; refine (HN.out _ (HH.out.below HB1.out)).mono ?_; rintro e w2 ⟨rfl, hb2⟩; have HB2 := Aside0.mk (HB1.out.trans (hb2.mono HB1.out.size)); clear hb2; obtain ⟨hc0, hc1, hc2⟩ := (HX.out.below HB2.out).cells; obtain ⟨hw0, hw1, hw2, hw3⟩ := (HY.out.below HB2.out).cells) | (go_at_call 52; refine HM.out.mono ?_; rintro e w1 ⟨rfl, hb1⟩; have HB1 := Aside0.mk hb1; obtain ⟨ha0, ha1, ha2⟩ := (HX.out.below hb1).cells; obtain ⟨hy0, hy1, hy2, hy3⟩ := (HY.out.below hb1).cells; clear hb1))
  exact bodyPost_ret (results_ctt rfl _ _ (w.heap.size + 2) 38 #[.slice AN N.length cN, .slice AG G.length cG, .slice AP P.length cP] (0, 0) _ rfl (kP (blk_below HZ.out HB3.out)) Try.underlying38 rfl (by kernel_rfl)) rfl ⟨rfl, below_set (below_set (below_set (below_then HB.out HB.out.size HB3.out) HG.out) HG.out) HG.out⟩
set_option maxHeartbeats 16000000 in
set_option maxRecDepth 100000 in
theorem rput_merge (n : S48) (g x : Int) (h : MemoAt w AN cN N AG cG G AP cP P) (h1 : mayMB N G P = true) (h2 : nodeB P n = true) (h3 : inB P g = true) (h4 : findS P g ≠ x) (hl : lookS N G P n = (x, true)) : Calls Try.prog 48 #[.agg #[.slice AN N.length cN, .slice AG G.length cG, .slice AP P.length cP], .agg #[.bool n.f0, .int .i64 n.f1, .int .i64 n.f2, .int .i64 n.f3], .int .i64 g] w fun e w' => ∃ A c, e = .returned (.tuple #[.agg #[.slice AN N.length cN, .slice AG G.length cG, .slice A (mergeT N G P g x).1.length c], .int .i64 (mergeT N G P g x).2.1, .int .i64 (mergeT N G P g x).2.2]) ∧ MemoAt w' AN cN N AG cG G A c (mergeT N G P g x).1 ∧ Hand w.heap.size AP P A (mergeT N G P g x).1 ∧ Below w.heap.size w w' := by
 obtain ⟨hx, hy, hz, hb⟩ := box3_new w AN cN N AG cG G AP cP P (.cells #[.bool n.f0, .int .i64 n.f1, .int .i64 n.f2, .int .i64 n.f3] 48) (.cells #[.slice none 0 0, .slice none 0 0, .slice none 0 0] 38)
 have HB := Aside0.mk hb
 have HX := Aside0.mk hx
 have HY := Aside0.mk (show NBox _ _ n from hy)
 have HZ := Aside0.mk hz
 have HM := Aside0.mk (rmay_at (h.below hb))
 have HN := Aside0.mk (fun (W : World) (h : MemoAt W AN cN N AG cG G AP cP P) => rnode_at n h)
 have HL := Aside0.mk (fun (W : World) (h : MemoAt W AN cN N AG cG G AP cP P) => rlook_at n h)
 have HH := Aside0.mk (h.below hb)
 have HG := Aside0.mk (show w.heap.size ≤ w.heap.size + 2 by omega)
 have hm := h.p.2.1
 rw [h1] at HM
 rw [h2] at HN
 rw [hl] at HL
 have HF := Aside0.mk (fun (W : World) (h : MemoAt W AN cN N AG cG G AP cP P) => rfind_at g h)
 have HMe := Aside0.mk (fun (W : World) (h : MemoAt W AN cN N AG cG G AP cP P) => rmerge_hand g x h)
 obtain ⟨⟨R, m1, m2⟩, hR⟩ : ∃ r, r = mergeT N G P g x := ⟨_, rfl⟩
 rw [← hR] at HMe ⊢
 have HH0 := Aside0.mk h
 obtain ⟨y, hy0⟩ : ∃ y, y = findS P g := ⟨_, rfl⟩
 rw [← hy0] at HF h4
 have e4 : (y == x) = false := beq_eq_false_iff_ne.mpr h4
 have l1 := inB_iff.1 h3
 have l2 : ¬ g < -1 := by omega
 have l3 : ¬ (P.length : Int) ≤ g := by omega
 have l4 : g ≠ -1 := by omega
 clear h hb hx hy hz h1 h2 hl h3 hR hy0
 dsimp only at *
 go_enter Try.func48, Try.ntmps48
 go_wp2_with (first | (go_at_call 50; refine (HMe.out _ (HH.out.below HB4.out)).mono ?_; rintro e w5 ⟨Q, cQ, rfl, hq, hh, hb5⟩; have HHd := Aside0.mk (hh.mono (below_then HB.out HB.out.size HB4.out).size); have HQ := Aside0.mk hq; have HB5 := Aside0.mk (HB4.out.trans (hb5.mono HB4.out.size)); clear hb5 hq hh; have HB6 := Aside0.mk (below_alloc HB5.out (.cells #[.slice AN N.length cN, .slice AG G.length cG, .slice Q R.length cQ] 38)); obtain ⟨hz0, hz1, hz2, hf0, hf1, hf2⟩ := bk3 (blk_below HZ.out HB6.out)) | (go_at_call 53; refine (HF.out _ (HH.out.below HB3.out)).mono ?_; rintro e w4 ⟨rfl, hb4⟩; have HB4 := Aside0.mk (HB3.out.trans (hb4.mono HB3.out.size)); clear hb4; obtain ⟨he0, he1, he2⟩ := (HX.out.below HB4.out).cells) | (go_at_call 51; refine (HL.out _ (HH.out.below HB2.out)).mono ?_; rintro e w3 ⟨rfl, hb3⟩; have HB3 := Aside0.mk (HB2.out.trans (hb3.mono HB2.out.size)); clear hb3; obtain ⟨hd0, hd1, hd2⟩ := (HX.out.below HB3.out).cells) | (go_at_call 81; refine (HN.out _ (HH.out.below HB1.out)).mono ?_; rintro e w2 ⟨rfl, hb2⟩; have HB2 := Aside0.mk (HB1.out.trans (hb2.mono HB1.out.size)); clear hb2; obtain ⟨hc0, hc1, hc2⟩ := (HX.out.below HB2.out).cells; obtain ⟨hw0, hw1, hw2, hw3⟩ := (HY.out.below HB2.out).cells) | (go_at_call 52; refine HM.out.mono ?_; rintro e w1 ⟨rfl, hb1⟩; have HB1 := Aside0.mk hb1; obtain ⟨ha0, ha1, ha2⟩ := (HX.out.below hb1).cells; obtain ⟨hy0, hy1, hy2, hy3⟩ := (HY.out.below hb1).cells; clear hb1))
 have hlast := memo_last HH0.out (below_then HB.out HB.out.size HB6.out) (blk_below HZ.out HB6.out) HG.out (HQ.out.below (below_alloc (Below.refl _ _) _)).p HQ.out.pc
 exact bodyPost_ret (results_ctt rfl _ _ (w.heap.size + 2) 38 #[.slice AN N.length cN, .slice AG G.length cG, .slice Q R.length cQ] (0, 0) _ rfl (kP (blk_below HZ.out HB6.out)) Try.underlying38 rfl (by kernel_rfl)) rfl ⟨_, _, rfl, hlast.1, HHd.out, hlast.2⟩
theorem C_set {α : Type} {d : Kd α} {W : World} {A : Option Addr} {n : Nat} {xs : List α} {q : Addr} {x v : Value} (h : d.C W A n xs) (hq : W.cell? q = some x) (hx : ∀ y cs (i : Nat), d.K W y cs → cs[i]? ≠ some x) (hv : ∀ y cs, d.K W y cs → d.K (W.setCell q v) y cs) : d.C (W.setCell q v) A n xs := by
 obtain ⟨h1, h2, h3⟩ := h
 refine ⟨h1, h2, fun hn => ?_⟩
 obtain ⟨ad, e, hc⟩ := h3 hn
 refine ⟨ad, e, fun j y hj => ?_⟩
 obtain ⟨cs, hl, hK, hcell⟩ := hc j y hj
 refine ⟨cs, hl, hv _ _ hK, fun i u hi => ?_⟩
 have hu := hcell i u hi
 have hne : q ≠ ad.add (j * d.sz + i) := fun e => by
  rw [← e, hq] at hu
  obtain rfl := Option.some.inj hu
  exact hx y cs i hK hi
 simp only [World.cell?_setCell_other, hne, ne_eq, not_false_eq_true, hu]
theorem MemoAt.set {W : World} {q : Addr} {A : Option Addr} {n c : Nat} (v : Value) (h : MemoAt W AN cN N AG cG G AP cP P) (hq : W.cell? q = some (.slice A n c)) : MemoAt (W.setCell q v) AN cN N AG cG G AP cP P :=
 ⟨C_set h.n hq (fun y cs i hK => by rw [k48_open hK]; rcases i with _ | _ | _ | _ | i <;> simp) (fun y cs hK => by rw [k48_open hK]; exact k48_mk _ _), h.nc, C_set_int h.g hq (fun z e => by cases e), h.gc, C_set_int h.p hq (fun z e => by cases e), h.pc⟩
structure PBox (w W : World) (n : S48) (AN : Option Addr) (cN : Nat) (N : List S48) (AG : Option Addr) (cG : Nat) (G : List Int) (AP : Option Addr) (cP : Nat) (P : List Int) : Prop where
 bel : Below w.heap.size w W
 box : MBox W w.heap.size AN cN N AG cG G AP cP P
 nb : NBox W (w.heap.size + 1) n
 res : W.heap[w.heap.size + 2]? = some (.cells #[.slice none 0 0, .slice none 0 0, .slice none 0 0] 38 (0, 0))
 m : MemoAt W AN cN N AG cG G AP cP P
section
variable {W : World} {n : S48} {A : Option Addr} {c : Nat}
theorem PBox.below {W' : World} (h : PBox w W n AN cN N AG cG G AP cP P) (hb : Below W.heap.size W W') : PBox w W' n AN cN N AG cG G AP cP P :=
 ⟨below_then h.bel h.bel.size hb, h.box.below hb, blk_below h.nb hb, blk_below h.res hb, h.m.below hb⟩
theorem PBox.setP {Q : List Int} (h : PBox w W n AN cN N AG cG G AP cP P) (hr : Kd.C (Kd.int .i64) W A Q.length Q) (hc : Q.length ≤ c) : PBox w (W.setCell ⟨w.heap.size, 2, none⟩ (.slice A Q.length c)) n AN cN N AG cG G A c Q :=
 ⟨below_set h.bel (Nat.le_refl _), blk_put h.box 2 _ rfl, (Below.heap_setCell _ _ _ _ (Nat.succ_ne_self _)).trans h.nb, (Below.heap_setCell _ _ _ _ (show w.heap.size + 2 ≠ w.heap.size by omega)).trans h.res, MemoAt.set _ ⟨h.m.n, h.m.nc, h.m.g, h.m.gc, hr, hc⟩ h.box.cells.2.2⟩
theorem PBox.setG {Q : List Int} (h : PBox w W n AN cN N AG cG G AP cP P) (hr : Kd.C (Kd.int .i64) W A Q.length Q) (hc : Q.length ≤ c) : PBox w (W.setCell ⟨w.heap.size, 1, none⟩ (.slice A Q.length c)) n AN cN N A c Q AP cP P :=
 ⟨below_set h.bel (Nat.le_refl _), blk_put h.box 1 _ rfl, (Below.heap_setCell _ _ _ _ (Nat.succ_ne_self _)).trans h.nb, (Below.heap_setCell _ _ _ _ (show w.heap.size + 2 ≠ w.heap.size by omega)).trans h.res, MemoAt.set _ ⟨h.m.n, h.m.nc, hr, hc, h.m.p, h.m.pc⟩ h.box.cells.2.1⟩
theorem PBox.setN {Q : List S48} (h : PBox w W n AN cN N AG cG G AP cP P) (hr : Kd.C k48 W A Q.length Q) (hc : Q.length ≤ c) : PBox w (W.setCell ⟨w.heap.size, 0, none⟩ (.slice A Q.length c)) n A c Q AG cG G AP cP P :=
 ⟨below_set h.bel (Nat.le_refl _), blk_put h.box 0 _ rfl, (Below.heap_setCell _ _ _ _ (Nat.succ_ne_self _)).trans h.nb, (Below.heap_setCell _ _ _ _ (show w.heap.size + 2 ≠ w.heap.size by omega)).trans h.res, MemoAt.set _ ⟨hr, hc, h.m.g, h.m.gc, h.m.p, h.m.pc⟩ h.box.cells.1⟩
theorem PBox.last (h : PBox w W n AN cN N AG cG G AP cP P) : MemoAt (((W.setCell ⟨w.heap.size + 2, 0, none⟩ (.slice AN N.length cN)).setCell ⟨w.heap.size + 2, 1, none⟩ (.slice AG G.length cG)).setCell ⟨w.heap.size + 2, 2, none⟩ (.slice AP P.length cP)) AN cN N AG cG G AP cP P ∧
  Below w.heap.size w (((W.setCell ⟨w.heap.size + 2, 0, none⟩ (.slice AN N.length cN)).setCell ⟨w.heap.size + 2, 1, none⟩ (.slice AG G.length cG)).setCell ⟨w.heap.size + 2, 2, none⟩ (.slice AP P.length cP)) := by
 have t1 := blk_put h.res 0 (.slice AN N.length cN) rfl
 have t2 := blk_put t1 1 (.slice AG G.length cG) rfl
 have hw : w.heap.size ≤ w.heap.size + 2 := by omega
 exact ⟨((h.m.set _ ((blk_cell h.res 0).trans rfl)).set _ ((blk_cell t1 1).trans rfl)).set _ ((blk_cell t2 2).trans rfl), below_set (below_set (below_set h.bel hw) hw) hw⟩
end
set_option maxHeartbeats 16000000 in
set_option maxRecDepth 100000 in
theorem rput_new (n : S48) (g x : Int) (h : MemoAt w AN cN N AG cG G AP cP P) (h1 : mayMB N G P = true) (h2 : nodeB P n = true) (h3 : inB P g = true) (hl : lookS N G P n = (x, false)) (hf : N.length ≠ 400) : Calls Try.prog 48 #[.agg #[.slice AN N.length cN, .slice AG G.length cG, .slice AP P.length cP], .agg #[.bool n.f0, .int .i64 n.f1, .int .i64 n.f2, .int .i64 n.f3], .int .i64 g] w fun e w' => ∃ AN cN AG cG, e = .returned (.tuple #[.agg #[.slice AN (N ++ [n]).length cN, .slice AG (G ++ [g]).length cG, .slice AP P.length cP], .int .i64 (findS P g), .int .i64 0]) ∧ MemoAt w' AN cN (N ++ [n]) AG cG (G ++ [g]) AP cP P ∧ (∀ ad, AN = some ad → w.heap.size ≤ ad.block) ∧ (∀ ad, AG = some ad → w.heap.size ≤ ad.block) ∧ Below w.heap.size w w' := by
 obtain ⟨hx, hy, hz, hb⟩ := box3_new w AN cN N AG cG G AP cP P (.cells #[.bool n.f0, .int .i64 n.f1, .int .i64 n.f2, .int .i64 n.f3] 48) (.cells #[.slice none 0 0, .slice none 0 0, .slice none 0 0] 38)
 have HB := Aside0.mk hb
 have HX := Aside0.mk hx
 have HY := Aside0.mk (show NBox _ _ n from hy)
 have HZ := Aside0.mk hz
 have HM := Aside0.mk (rmay_at (h.below hb))
 have HN := Aside0.mk (fun (W : World) (h : MemoAt W AN cN N AG cG G AP cP P) => rnode_at n h)
 have HL := Aside0.mk (fun (W : World) (h : MemoAt W AN cN N AG cG G AP cP P) => rlook_at n h)
 have HH := Aside0.mk (h.below hb)
 have HG := Aside0.mk (show w.heap.size ≤ w.heap.size + 2 by omega)
 have hm := h.p.2.1
 rw [h1] at HM
 rw [h2] at HN
 rw [hl] at HL
 have l1 := may_lenN h1
 have l2 := may_lenG h1
 have l4 := inB_iff.1 h3
 have l5 : ¬ g < -1 := by omega
 have l3 : ¬ (P.length : Int) ≤ g := by omega
 have l6 : g ≠ -1 := by omega
 have e1 : ¬ (400 : Int) ≤ (N.length : Int) := by omega
 have HJ := Aside0.mk (show PBox w _ n AN cN N AG cG G AP cP P from ⟨hb, hx, hy, hz, h.below hb⟩)
 have HL1 := Aside0.mk l1
 have HL2 := Aside0.mk l2
 clear h hb hx hy hz h1 h2 hl h3 hf l1 l2
 go_enter Try.func48, Try.ntmps48
 go_wp2_with (first | (go_at_call 51; refine (HL.out _ (HH.out.below HB2.out)).mono ?_; rintro e w3 ⟨rfl, hb3⟩; have HB3 := Aside0.mk (HB2.out.trans (hb3.mono HB2.out.size)); clear hb3; obtain ⟨hd0, hd1, hd2⟩ := (HX.out.below HB3.out).cells; obtain ⟨hz0, hz1, hz2, hf0, hf1, hf2⟩ := bk3 (blk_below HZ.out HB3.out)) | (go_at_call 81; refine (HN.out _ (HH.out.below HB1.out)).mono ?_; rintro e w2 ⟨rfl, hb2⟩; have HB2 := Aside0.mk (HB1.out.trans (hb2.mono HB1.out.size)); clear hb2; obtain ⟨hc0, hc1, hc2⟩ := (HX.out.below HB2.out).cells; obtain ⟨hw0, hw1, hw2, hw3⟩ := (HY.out.below HB2.out).cells) | (go_at_call 52; refine HM.out.mono ?_; rintro e w1 ⟨rfl, hb1⟩; have HB1 := Aside0.mk hb1; obtain ⟨ha0, ha1, ha2⟩ := (HX.out.below hb1).cells; obtain ⟨hy0, hy1, hy2, hy3⟩ := (HY.out.below hb1).cells; clear hb1))
 have HJ3 := Aside0.mk (HJ.out.below HB3.out)
 clear HM HN HL HX HY HZ HJ ha0 ha1 ha2 hy0 hy1 hy2 hy3 hw0 hw1 hw2 hw3 hc0 hc1 hc2 hd0 hd1 hd2
 obtain ⟨wj, hwj⟩ : ∃ W, W = w3 := ⟨_, rfl⟩
 rw [← hwj] at HJ3 ⊢
 clear hwj
 refine start_ (n := 8) (S := fun w' => PBox w w' n AN cN N AG cG G AP cP P) (ds := [7]) #[false, false, false, false, false, false, false, false] (by kernel_rfl) rfl rfl (HJ3.out.below (below_drew (Below.refl _ _))) (fun hHeld => ?_)
 have HHeld := Aside0.mk hHeld
 clear hHeld
 have HWJ := Aside0.mk (below_drew (Below.refl wj.heap.size wj))
 obtain ⟨wd, hwd⟩ : ∃ W, W = wj.drew := ⟨_, rfl⟩
 rw [← hwd] at HHeld HWJ ⊢
 clear hwd
 refine pure_ (i := 0) (N := some 95) (v := ?_) (a' := ?_) #[true, false, false, false, false, false, false, false] rfl rfl (by kernel_rfl) (fun _ _ _ h => h) (Or.inl ⟨by rfl, ?_⟩) ?_ ?_
 rotate_left
 ·intro w'; go_simp; with_reducible rfl
 rotate_left
 ·simp only [Act.put, List.setIfInBounds_toArray, List.set_cons_zero, List.set_cons_succ, i64_w, i32_w]; rfl
 refine take_ (i := 1) (N := some 96) (v := ?_) (a' := ?_) #[true, true, false, false, false, false, false, false] rfl rfl (by kernel_rfl) (fun _ _ _ h => h) (Or.inl ⟨by rfl, ?_⟩) HHeld.out ?_ ?_
 rotate_left
 ·intro w' hs; obtain ⟨s0, s1, s2⟩ := hs.box.cells; clear hs; go_simp; with_reducible rfl
 rotate_left
 ·simp only [Act.put, List.setIfInBounds_toArray, List.set_cons_zero, List.set_cons_succ, i64_w, i32_w]; rfl
 refine take_ (i := 3) (N := some 98) (v := ?_) (a' := ?_) #[true, true, false, true, false, false, false, false] rfl rfl (by kernel_rfl) (fun _ _ _ h => h) (Or.inl ⟨by rfl, ?_⟩) HHeld.out ?_ ?_
 rotate_left
 ·intro w' hs; obtain ⟨s0, s1, s2, s3⟩ := hs.nb.cells; clear hs; go_simp; with_reducible rfl
 rotate_left
 ·simp only [Act.put, List.setIfInBounds_toArray, List.set_cons_zero, List.set_cons_succ, i64_w, i32_w]; rfl
 refine join_ (σ := Value × Value) 3 #[true, true, true, true, true, false, false, false] (fun s => [(97, s.1), (99, s.2)]) (fun s w' => PBox w w' n AN cN N AG cG G AP cP P ∧ Below wj.heap.size wj w' ∧ Kd.R k48 48 w' wj.heap.size (fun _ => True) s.1 N ∧ Kd.R k48 48 w' wj.heap.size (fun _ => True) s.2 [n]) ?_ ?_
 rotate_left
 ·intro hCont
  refine two_ (i := 2) (j := 4) (Ni := some 97) (Nj := some 99) #[true, true, true, true, false, false, false, false] #[true, true, false, true, true, false, false, false] rfl rfl rfl rfl (by kernel_rfl) (by decide) (by decide) (fun K hK => ?_) (fun K hK => ?_)
  ·refine Kd.R_append_rows_step k48 (w0 := wd) wd.heap.size (by rfl) (.const (.slice none 0 0)) (.tmp 96) 36 48 (.agg #[(.bool false), (.int .i64 0), (.int .i64 0), (.int .i64 0)]) 32 rfl Try.underlying36 info48 rfl (by decide) (by omega) (.slice none 0 0) ([] : List S48) N _ _ _ (fun _ => True) (fun _ => False) rfl rfl (Kd.R_nil _ _ _ _ _) HHeld.out.m.n (fun _ _ h => h) (fun _ h => h.elim) (fun _ _ => trivial) (Below.refl _ _) (Nat.le_refl _) (by have := HL1.out; simp only [List.length_nil]; omega) ?_
   intro v1 wa ho hb _ _
   refine hK.out _ _ (HHeld.out.below hb) (fun _ => ?_)
   refine norm_ (a' := ?_) ?_ ?_
   rotate_left
   ·show Act.put _ (some 97) _ = _
    simp only [Act.put, List.setIfInBounds_toArray, List.set_cons_zero, List.set_cons_succ, i64_w, i32_w]; rfl
   clear hK K
   refine one_ (i := 4) (N := some 99) #[true, true, true, true, true, false, false, false] rfl rfl (by kernel_rfl) (by decide) (fun K hK => ?_)
   refine Kd.R_lit_step k48 _ 48 ?hg (N := 99) ?hd (xs := [n]) (inner := [.bool n.f0, .int .i64 n.f1, .int .i64 n.f2, .int .i64 n.f3]) (ok := fun _ => True) (okp := fun _ => True) ?hr ?hp (fun _ hk => hk) trivial (Below.refl _ _) (Nat.le_refl _) (by simp) ?_
   case hd => rfl
   case hg => rfl
   case hr => first | (go_simp; done) | (go_simp; rfl)
   case hp => exact Reps.c4 (show Kd.M k48 _ _ _ n [.bool n.f0, .int .i64 n.f1, .int .i64 n.f2, .int .i64 n.f3] from k48_mkM _ _ _ n) (Reps.none _ _)
   intro v2 wb ho2 hb2 _ _
   refine hK.out _ _ ((HHeld.out.below hb).below hb2) (fun _ => ?_)
   refine norm_ (a' := ?_) ?_ ?_
   rotate_left
   ·show Act.put _ (some 99) _ = _
    simp only [Act.put, List.setIfInBounds_toArray, List.set_cons_zero, List.set_cons_succ, i64_w, i32_w]; rfl
   exact norm_ (by simp only [putAll, Act.put, List.setIfInBounds_toArray, List.set_cons_zero, List.set_cons_succ]) (hCont (v1, v2) _ ⟨(HHeld.out.below hb).below hb2, (HWJ.out.trans (hb.mono HWJ.out.size)).trans (hb2.mono (HWJ.out.trans (hb.mono HWJ.out.size)).size), Kd.R_lower (Kd.R_below (by simpa using ho) hb2) HWJ.out.size, Kd.R_lower ho2 (HWJ.out.trans (hb.mono HWJ.out.size)).size⟩)
  ·refine Kd.R_lit_step k48 _ 48 ?hg (N := 99) ?hd (xs := [n]) (inner := [.bool n.f0, .int .i64 n.f1, .int .i64 n.f2, .int .i64 n.f3]) (ok := fun _ => True) (okp := fun _ => True) ?hr ?hp (fun _ hk => hk) trivial (Below.refl _ _) (Nat.le_refl _) (by simp) ?_
   case hd => rfl
   case hg => rfl
   case hr => first | (go_simp; done) | (go_simp; rfl)
   case hp => exact Reps.c4 (show Kd.M k48 _ _ _ n [.bool n.f0, .int .i64 n.f1, .int .i64 n.f2, .int .i64 n.f3] from k48_mkM _ _ _ n) (Reps.none _ _)
   intro v2 wa ho hb _ _
   refine hK.out _ _ (HHeld.out.below hb) (fun _ => ?_)
   refine norm_ (a' := ?_) ?_ ?_
   rotate_left
   ·show Act.put _ (some 99) _ = _
    simp only [Act.put, List.setIfInBounds_toArray, List.set_cons_zero, List.set_cons_succ, i64_w, i32_w]; rfl
   clear hK K
   refine one_ (i := 2) (N := some 97) #[true, true, true, true, true, false, false, false] rfl rfl (by kernel_rfl) (by decide) (fun K hK => ?_)
   refine Kd.R_append_rows_step k48 (w0 := wa) wa.heap.size (by rfl) (.const (.slice none 0 0)) (.tmp 96) 36 48 (.agg #[(.bool false), (.int .i64 0), (.int .i64 0), (.int .i64 0)]) 32 rfl Try.underlying36 info48 rfl (by decide) (by omega) (.slice none 0 0) ([] : List S48) N _ _ _ (fun _ => True) (fun _ => False) rfl rfl (Kd.R_nil _ _ _ _ _) (HHeld.out.below hb).m.n (fun _ _ h => h) (fun _ h => h.elim) (fun _ _ => trivial) (Below.refl _ _) (Nat.le_refl _) (by have := HL1.out; simp only [List.length_nil]; omega) ?_
   intro v1 wb ho2 hb2 _ _
   refine hK.out _ _ ((HHeld.out.below hb).below hb2) (fun _ => ?_)
   refine norm_ (a' := ?_) ?_ ?_
   rotate_left
   ·show Act.put _ (some 97) _ = _
    simp only [Act.put, List.setIfInBounds_toArray, List.set_cons_zero, List.set_cons_succ, i64_w, i32_w]; rfl
   exact norm_ (by simp only [putAll, Act.put, List.setIfInBounds_toArray, List.set_cons_zero, List.set_cons_succ]) (hCont (v1, v2) _ ⟨(HHeld.out.below hb).below hb2, (HWJ.out.trans (hb.mono HWJ.out.size)).trans (hb2.mono (HWJ.out.trans (hb.mono HWJ.out.size)).size), Kd.R_lower (by simpa using ho2) (HWJ.out.trans (hb.mono HWJ.out.size)).size, Kd.R_lower (Kd.R_below ho hb2) HWJ.out.size⟩)
 rintro ⟨v1, v2⟩ wc ⟨hJ, hbc, hr1, hr2⟩
 dsimp only at hr1 hr2
 have HJ4 := Aside0.mk hJ
 have HBC := Aside0.mk hbc
 have HR1 := Aside0.mk hr1
 obtain ⟨A2, c2, rfl⟩ := Kd.R_slice hr2
 have HR2 := Aside0.mk hr2
 clear hJ hbc hr1 hr2 HHeld HWJ
 refine norm_ (a' := ?_) ?_ ?_
 rotate_left
 ·simp only [putAll, Act.put, List.setIfInBounds_toArray, List.set_cons_zero, List.set_cons_succ]; rfl
 refine one_ (i := 5) (N := some 100) #[true, true, true, true, true, true, false, false] rfl rfl (by kernel_rfl) (by decide) (fun K hK => ?_)
 refine Kd.R_append_rows_step k48 (w0 := wj) wj.heap.size (by rfl) (.tmp 97) (.tmp 99) 36 48 (.agg #[(.bool false), (.int .i64 0), (.int .i64 0), (.int .i64 0)]) 32 rfl Try.underlying36 info48 rfl (by decide) (by omega) v1 N [n] _ _ _ (fun _ => True) (fun _ => False) rfl rfl HR1.out (Kd.R_reads' HR2.out).2.2 (fun _ _ h => h) (fun _ h => h.elim) (fun _ _ => trivial) HBC.out HBC.out.size (by have := HL1.out; simp only [List.length_singleton]; omega) ?_
 intro v3 we ho3 hb3 _ _
 obtain ⟨A3, c3, rfl, hl3, hc3⟩ := Kd.R_reads ho3
 have HNew := Aside0.mk (fun ad e => Nat.le_trans HJ3.out.bel.size (row_fresh ho3 ad e))
 have HC3 := Aside0.mk hc3
 have HLC3 := Aside0.mk hl3
 have HJ5 := Aside0.mk (HJ3.out.below hb3)
 clear ho3 hb3 hc3 hl3 HR1 HR2 HBC HJ4
 refine hK.out _ _ HJ5.out (fun _ => ?_)
 clear hK K
 refine norm_ (a' := ?_) ?_ ?_
 rotate_left
 ·show Act.put _ (some 100) _ = _
  simp only [Act.put, List.setIfInBounds_toArray, List.set_cons_zero, List.set_cons_succ, i64_w, i32_w]; rfl
 refine pure_ (i := 6) (N := some 101) (v := ?_) (a' := ?_) #[true, true, true, true, true, true, true, false] rfl rfl (by kernel_rfl) (fun _ _ _ h => h) (Or.inl ⟨by rfl, ?_⟩) ?_ ?_
 rotate_left
 ·intro w'; go_simp; with_reducible rfl
 rotate_left
 ·simp only [Act.put, List.setIfInBounds_toArray, List.set_cons_zero, List.set_cons_succ, i64_w, i32_w]; rfl
 refine last_ (i := 7) (N := none) #[true, true, true, true, true, true, true, true] rfl rfl (by kernel_rfl) (by decide) (fun K hK => ?_)
 obtain ⟨hs0, hs1, hs2, hf0, hf1, hf2⟩ := bk3 HJ5.out.box
 refine skip_ (w1 := ?_) (by rfl) rfl ?_ ?_
 rotate_left
 ·go_simp; rfl
 refine hK.out _ _ ?_
 refine done_ (by kernel_rfl) ?_
 clear hs0 hs1 hs2 hf0 hf1 hf2 hK K
 have HJ6 := Aside0.mk (HJ5.out.setN HC3.out HLC3.out)
 rw [show N.length + 1 = (N ++ [n]).length by simp]
 obtain ⟨wn, hwn⟩ : ∃ W, W = we.setCell ⟨w.heap.size, 0, none⟩ (.slice A3 (N ++ [n]).length c3) := ⟨_, rfl⟩
 rw [← hwn] at HJ6 ⊢
 obtain ⟨N', hN'⟩ : ∃ x, x = N ++ [n] := ⟨_, rfl⟩
 rw [← hN'] at HJ6
 have HNN := Aside0.mk hN'
 clear HC3 HLC3 HJ5 HJ3 hwn hN'
 obtain ⟨ha0, ha1, ha2, hf0, hf1, hf2⟩ := bk3 HJ6.out.box
 go_wp2_with (first | ((with_reducible refine gate_builtin (b := .append) (xs := #[.const (.slice none 0 0), .tmp 103]) rfl ?_); at_builtin; refine Kd.R_append_rows (Kd.int .i64) (w0 := wn) wn.heap.size rfl (.const (.slice none 0 0)) (.tmp 103) 22 3 (.int .i64 0) 8 rfl Try.underlying22 info3 rfl (by decide) (by omega) (.slice none 0 0) ([] : List Int) G _ _ _ (fun _ => True) (fun _ => False) rfl rfl (Kd.R_nil _ _ _ _ _) HJ6.out.m.g (fun _ _ h => h) (fun _ h => h.elim) (fun _ _ => trivial) (Below.refl _ _) (Nat.le_refl _) (by have := HL1.out; have := HL2.out; simp only [List.length_nil]; omega) ?_; intro v1 wa ho hb _ _; have HO1 := Aside0.mk (show Kd.R (Kd.int .i64) 3 wa wn.heap.size (fun _ => True) v1 G by simpa using ho); have HBA := Aside0.mk hb; clear ho hb) | ((with_reducible refine gate_dst (N := 106) rfl ?_); refine Kd.R_lit (Kd.int .i64) _ 3 ?hg (N := 106) ?hd (xs := [g]) (inner := [.int .i64 g]) (ok := fun _ => True) (okp := fun _ => True) ?hr ?hp (fun _ hk => hk) trivial (Below.refl _ _) (Nat.le_refl _) (by simp) ?_; (case hd => rfl); (case hg => rfl); (case hr => first | (go_simp; done) | (go_simp; rfl)); (case hp => exact (Reps.one (show Kd.M (Kd.int .i64) _ _ _ g [.int .i64 g] from rfl) (Reps.none _ _))); intro v2 wb ho hb _ _; obtain ⟨A2, c2, rfl⟩ := Kd.R_slice ho; have HO2 := Aside0.mk ho; have HBB := Aside0.mk (HBA.out.trans (hb.mono HBA.out.size)); have HO3 := Aside0.mk (Kd.R_below HO1.out hb); clear ho hb HO1) | ((with_reducible refine gate_builtin (b := .append) (xs := #[.tmp 104, .tmp 106]) rfl ?_); at_builtin; refine Kd.R_append_rows (Kd.int .i64) (w0 := wn) wn.heap.size rfl (.tmp 104) (.tmp 106) 22 3 (.int .i64 0) 8 rfl Try.underlying22 info3 rfl (by decide) (by omega) v1 G [g] _ _ _ (fun _ => True) (fun _ => False) rfl rfl HO3.out (Kd.R_reads' HO2.out).2.2 (fun _ _ h => h) (fun _ h => h.elim) (fun _ _ => trivial) HBB.out HBB.out.size (by have := HL1.out; have := HL2.out; simp only [List.length_singleton]; omega) ?_; intro v3 wc ho hb _ _; obtain ⟨A3, c3, rfl, hl3, hc3⟩ := Kd.R_reads ho; have HNew2 := Aside0.mk (fun ad e => Nat.le_trans HJ6.out.bel.size (row_fresh ho ad e)); have HC3 := Aside0.mk hc3; have HLC3 := Aside0.mk hl3; have HJ7 := Aside0.mk (HJ6.out.below hb); clear ho hb hl3 hc3; obtain ⟨hb0, hb1, hb2, hg0, hg1, hg2⟩ := bk3 HJ7.out.box))
 rw [show G.length + 1 = (G ++ [g]).length by simp]
 have HJ8 := Aside0.mk (HJ7.out.setG HC3.out HLC3.out)
 obtain ⟨wg, hwg⟩ : ∃ W, W = wc.setCell ⟨w.heap.size, 1, none⟩ (.slice A3 (G ++ [g]).length c3) := ⟨_, rfl⟩
 rw [← hwg] at HJ8 ⊢
 obtain ⟨G', hG'⟩ : ∃ x, x = G ++ [g] := ⟨_, rfl⟩
 rw [← hG'] at HJ8 ⊢
 have HGG := Aside0.mk hG'
 clear HC3 HLC3 HJ7 HJ6 hwg hG' hb0 hb1 hb2 hg0 hg1 hg2 ha0 ha1 ha2 hf0 hf1 hf2 HO2 HO3 HBA HBB
 obtain ⟨hb0, hb1, hb2⟩ := HJ8.out.box.cells
 have p0 := fun d os => cell_regrown hb0 d os
 have p1 := fun d os => cell_regrown hb1 d os
 have p2 := fun d os => cell_regrown hb2 d os
 have cF := fun d os => QR.bel (rfind_at g (HJ8.out.m.below (below_regrown wg d os)))
 refine QR.region 4 (by first | assumption | kernel_rfl) (by kernel_rfl) ?_
 simp only [List.take_succ_cons, List.take_zero, List.drop_succ_cons, List.drop_zero]
 repeat (refine QR.txt_step (fun K hK => ?_); have HK := Aside0.mk hK; clear hK; go_simp; first | (refine HK.out _ ?_; clear HK K) | (apply Exists.intro; refine ⟨fun _ => ?_, HK.out _ ?_⟩; (with_reducible exact cF _ _); clear HK K))
 refine QR.txt_nil ?_
 intro w5 hw5
 have HJ9 := Aside0.mk (HJ8.out.below hw5.below)
 clear p0 p1 p2 cF hw5 hb0 hb1 hb2
 obtain ⟨hy0, hy1, hy2, hf0, hf1, hf2⟩ := bk3 HJ9.out.res
 go_wp2
 have hlast := HJ9.out.last
 rw [← HNN.out, ← HGG.out]
 exact bodyPost_ret (results_ctt rfl _ _ (w.heap.size + 2) 38 #[.slice _ N'.length _, .slice _ G'.length _, .slice AP P.length cP] (0, 0) _ rfl (kP HJ9.out.res) Try.underlying38 rfl (by kernel_rfl)) rfl ⟨_, _, _, _, rfl, hlast.1, HNew.out, HNew2.out, hlast.2⟩
set_option maxHeartbeats 16000000 in
set_option maxRecDepth 100000 in
theorem rput_own (n : S48) (x : Int) (h : MemoAt w AN cN N AG cG G AP cP P) (h1 : mayMB N G P = true) (h2 : nodeB P n = true) (hl : lookS N G P n = (x, false)) (hf : N.length ≠ 400) (hp : P.length ≠ 400) : Calls Try.prog 48 #[.agg #[.slice AN N.length cN, .slice AG G.length cG, .slice AP P.length cP], .agg #[.bool n.f0, .int .i64 n.f1, .int .i64 n.f2, .int .i64 n.f3], .int .i64 (-1)] w fun e w' => ∃ AN cN AG cG AP cP, e = .returned (.tuple #[.agg #[.slice AN (N ++ [n]).length cN, .slice AG (G ++ [(P.length : Int)]).length cG, .slice AP (P ++ [(P.length : Int)]).length cP], .int .i64 (findS (P ++ [(P.length : Int)]) (P.length : Int)), .int .i64 0]) ∧ MemoAt w' AN cN (N ++ [n]) AG cG (G ++ [(P.length : Int)]) AP cP (P ++ [(P.length : Int)]) ∧ (∀ ad, AN = some ad → w.heap.size ≤ ad.block) ∧ (∀ ad, AG = some ad → w.heap.size ≤ ad.block) ∧ (∀ ad, AP = some ad → w.heap.size ≤ ad.block) ∧ Below w.heap.size w w' := by
 obtain ⟨hx, hy, hz, hb⟩ := box3_new w AN cN N AG cG G AP cP P (.cells #[.bool n.f0, .int .i64 n.f1, .int .i64 n.f2, .int .i64 n.f3] 48) (.cells #[.slice none 0 0, .slice none 0 0, .slice none 0 0] 38)
 have HB := Aside0.mk hb
 have HX := Aside0.mk hx
 have HY := Aside0.mk (show NBox _ _ n from hy)
 have HZ := Aside0.mk hz
 have HM := Aside0.mk (rmay_at (h.below hb))
 have HN := Aside0.mk (fun (W : World) (h : MemoAt W AN cN N AG cG G AP cP P) => rnode_at n h)
 have HL := Aside0.mk (fun (W : World) (h : MemoAt W AN cN N AG cG G AP cP P) => rlook_at n h)
 have HH := Aside0.mk (h.below hb)
 have HG := Aside0.mk (show w.heap.size ≤ w.heap.size + 2 by omega)
 have hm := h.p.2.1
 rw [h1] at HM
 rw [h2] at HN
 rw [hl] at HL
 have l1 := may_lenN h1
 have l2 := may_lenG h1
 have l7 := may_lenP h1
 have e2 : ¬ (400 : Int) ≤ (P.length : Int) := by omega
 have e1 : ¬ (400 : Int) ≤ (N.length : Int) := by omega
 have HJ := Aside0.mk (show PBox w _ n AN cN N AG cG G AP cP P from ⟨hb, hx, hy, hz, h.below hb⟩)
 have HL1 := Aside0.mk l1
 have HL2 := Aside0.mk l2
 have HL3 := Aside0.mk l7
 clear h hb hx hy hz h1 h2 hl hf hp l1 l2 l7
 go_enter Try.func48, Try.ntmps48
 go_wp2_with (first | (go_at_call 51; refine (HL.out _ (HH.out.below HB2.out)).mono ?_; rintro e w3 ⟨rfl, hb3⟩; have HB3 := Aside0.mk (HB2.out.trans (hb3.mono HB2.out.size)); clear hb3; obtain ⟨hd0, hd1, hd2⟩ := (HX.out.below HB3.out).cells; obtain ⟨hz0, hz1, hz2, hf0, hf1, hf2⟩ := bk3 (blk_below HZ.out HB3.out)) | (go_at_call 81; refine (HN.out _ (HH.out.below HB1.out)).mono ?_; rintro e w2 ⟨rfl, hb2⟩; have HB2 := Aside0.mk (HB1.out.trans (hb2.mono HB1.out.size)); clear hb2; obtain ⟨hc0, hc1, hc2⟩ := (HX.out.below HB2.out).cells; obtain ⟨hw0, hw1, hw2, hw3⟩ := (HY.out.below HB2.out).cells) | (go_at_call 52; refine HM.out.mono ?_; rintro e w1 ⟨rfl, hb1⟩; have HB1 := Aside0.mk hb1; obtain ⟨ha0, ha1, ha2⟩ := (HX.out.below hb1).cells; obtain ⟨hy0, hy1, hy2, hy3⟩ := (HY.out.below hb1).cells; clear hb1) | ((with_reducible refine gate_builtin (b := .append) (xs := #[.const (.slice none 0 0), .tmp 89]) rfl ?_); at_builtin; have HJ3 := Aside0.mk (HJ.out.below HB3.out); refine Kd.R_append_rows (Kd.int .i64) (w0 := w3) w3.heap.size rfl (.const (.slice none 0 0)) (.tmp 89) 22 3 (.int .i64 0) 8 rfl Try.underlying22 info3 rfl (by decide) (by omega) (.slice none 0 0) ([] : List Int) P _ _ _ (fun _ => True) (fun _ => False) rfl rfl (Kd.R_nil _ _ _ _ _) HJ3.out.m.p (fun _ _ h => h) (fun _ h => h.elim) (fun _ _ => trivial) (Below.refl _ _) (Nat.le_refl _) (by have := HL3.out; simp only [List.length_nil]; omega) ?_; intro v1 wa ho hb _ _; have HO1 := Aside0.mk (show Kd.R (Kd.int .i64) 3 wa w3.heap.size (fun _ => True) v1 P by simpa using ho); have HBA := Aside0.mk hb; clear ho hb) | ((with_reducible refine gate_dst (N := 92) rfl ?_); refine Kd.R_lit (Kd.int .i64) _ 3 ?hg (N := 92) ?hd (xs := [(P.length : Int)]) (inner := [.int .i64 (P.length : Int)]) (ok := fun _ => True) (okp := fun _ => True) ?hr ?hp (fun _ hk => hk) trivial (Below.refl _ _) (Nat.le_refl _) (by simp) ?_; (case hd => rfl); (case hg => rfl); (case hr => first | (go_simp; done) | (go_simp; rfl)); (case hp => exact (Reps.one (show Kd.M (Kd.int .i64) _ _ _ (P.length : Int) [.int .i64 (P.length : Int)] from rfl) (Reps.none _ _))); intro v2 wb ho hb _ _; obtain ⟨A2, c2, rfl⟩ := Kd.R_slice ho; have HO2 := Aside0.mk ho; have HBB := Aside0.mk (HBA.out.trans (hb.mono HBA.out.size)); have HO3 := Aside0.mk (Kd.R_below HO1.out hb); clear ho hb HO1) | ((with_reducible refine gate_builtin (b := .append) (xs := #[.tmp 90, .tmp 92]) rfl ?_); at_builtin; refine Kd.R_append_rows (Kd.int .i64) (w0 := w3) w3.heap.size rfl (.tmp 90) (.tmp 92) 22 3 (.int .i64 0) 8 rfl Try.underlying22 info3 rfl (by decide) (by omega) v1 P [(P.length : Int)] _ _ _ (fun _ => True) (fun _ => False) rfl rfl HO3.out (Kd.R_reads' HO2.out).2.2 (fun _ _ h => h) (fun _ h => h.elim) (fun _ _ => trivial) HBB.out HBB.out.size (by have := HL3.out; simp only [List.length_singleton]; omega) ?_; intro v3 wc ho hb _ _; obtain ⟨A5, c5, rfl, hl5, hc5⟩ := Kd.R_reads ho; have HNew3 := Aside0.mk (fun ad e => Nat.le_trans HJ3.out.bel.size (row_fresh ho ad e)); have HC5 := Aside0.mk hc5; have HLC5 := Aside0.mk hl5; have HJ4 := Aside0.mk (HJ3.out.below hb); clear ho hb hl5 hc5; obtain ⟨hb0, hb1, hb2, hg0, hg1, hg2⟩ := bk3 HJ4.out.box))
 rw [show P.length + 1 = (P ++ [(P.length : Int)]).length by simp]
 have HJ3' := Aside0.mk (HJ4.out.setP HC5.out HLC5.out)
 clear HJ3
 have HJ3 := HJ3'
 obtain ⟨wj, hwj⟩ : ∃ W, W = wc.setCell ⟨w.heap.size, 2, none⟩ (.slice A5 (P ++ [(P.length : Int)]).length c5) := ⟨_, rfl⟩
 rw [← hwj] at HJ3 ⊢
 obtain ⟨R, hR⟩ : ∃ x, x = P ++ [(P.length : Int)] := ⟨_, rfl⟩
 rw [← hR] at HJ3 ⊢
 have HRR := Aside0.mk hR
 clear hwj hR HJ3' HJ4 HC5 HLC5 HJ HM HN HL HX HY HZ ha0 ha1 ha2 hy0 hy1 hy2 hy3 hw0 hw1 hw2 hw3 hc0 hc1 hc2 hd0 hd1 hd2 hb0 hb1 hb2 hg0 hg1 hg2 hz0 hz1 hz2 hf0 hf1 hf2 HO2 HO3 HBA HBB
 refine start_ (n := 8) (S := fun w' => PBox w w' n AN cN N AG cG G A5 c5 R) (ds := [7]) #[false, false, false, false, false, false, false, false] (by kernel_rfl) rfl rfl (HJ3.out.below (below_drew (Below.refl _ _))) (fun hHeld => ?_)
 have HHeld := Aside0.mk hHeld
 clear hHeld
 have HWJ := Aside0.mk (below_drew (Below.refl wj.heap.size wj))
 obtain ⟨wd, hwd⟩ : ∃ W, W = wj.drew := ⟨_, rfl⟩
 rw [← hwd] at HHeld HWJ ⊢
 clear hwd
 refine pure_ (i := 0) (N := some 95) (v := ?_) (a' := ?_) #[true, false, false, false, false, false, false, false] rfl rfl (by kernel_rfl) (fun _ _ _ h => h) (Or.inl ⟨by rfl, ?_⟩) ?_ ?_
 rotate_left
 ·intro w'; go_simp; with_reducible rfl
 rotate_left
 ·simp only [Act.put, List.setIfInBounds_toArray, List.set_cons_zero, List.set_cons_succ, i64_w, i32_w]; rfl
 refine take_ (i := 1) (N := some 96) (v := ?_) (a' := ?_) #[true, true, false, false, false, false, false, false] rfl rfl (by kernel_rfl) (fun _ _ _ h => h) (Or.inl ⟨by rfl, ?_⟩) HHeld.out ?_ ?_
 rotate_left
 ·intro w' hs; obtain ⟨s0, s1, s2⟩ := hs.box.cells; clear hs; go_simp; with_reducible rfl
 rotate_left
 ·simp only [Act.put, List.setIfInBounds_toArray, List.set_cons_zero, List.set_cons_succ, i64_w, i32_w]; rfl
 refine take_ (i := 3) (N := some 98) (v := ?_) (a' := ?_) #[true, true, false, true, false, false, false, false] rfl rfl (by kernel_rfl) (fun _ _ _ h => h) (Or.inl ⟨by rfl, ?_⟩) HHeld.out ?_ ?_
 rotate_left
 ·intro w' hs; obtain ⟨s0, s1, s2, s3⟩ := hs.nb.cells; clear hs; go_simp; with_reducible rfl
 rotate_left
 ·simp only [Act.put, List.setIfInBounds_toArray, List.set_cons_zero, List.set_cons_succ, i64_w, i32_w]; rfl
 refine join_ (σ := Value × Value) 3 #[true, true, true, true, true, false, false, false] (fun s => [(97, s.1), (99, s.2)]) (fun s w' => PBox w w' n AN cN N AG cG G A5 c5 R ∧ Below wj.heap.size wj w' ∧ Kd.R k48 48 w' wj.heap.size (fun _ => True) s.1 N ∧ Kd.R k48 48 w' wj.heap.size (fun _ => True) s.2 [n]) ?_ ?_
 rotate_left
 ·intro hCont
  refine two_ (i := 2) (j := 4) (Ni := some 97) (Nj := some 99) #[true, true, true, true, false, false, false, false] #[true, true, false, true, true, false, false, false] rfl rfl rfl rfl (by kernel_rfl) (by decide) (by decide) (fun K hK => ?_) (fun K hK => ?_)
  ·refine Kd.R_append_rows_step k48 (w0 := wd) wd.heap.size (by rfl) (.const (.slice none 0 0)) (.tmp 96) 36 48 (.agg #[(.bool false), (.int .i64 0), (.int .i64 0), (.int .i64 0)]) 32 rfl Try.underlying36 info48 rfl (by decide) (by omega) (.slice none 0 0) ([] : List S48) N _ _ _ (fun _ => True) (fun _ => False) rfl rfl (Kd.R_nil _ _ _ _ _) HHeld.out.m.n (fun _ _ h => h) (fun _ h => h.elim) (fun _ _ => trivial) (Below.refl _ _) (Nat.le_refl _) (by have := HL1.out; simp only [List.length_nil]; omega) ?_
   intro v1 wa ho hb _ _
   refine hK.out _ _ (HHeld.out.below hb) (fun _ => ?_)
   refine norm_ (a' := ?_) ?_ ?_
   rotate_left
   ·show Act.put _ (some 97) _ = _
    simp only [Act.put, List.setIfInBounds_toArray, List.set_cons_zero, List.set_cons_succ, i64_w, i32_w]; rfl
   clear hK K
   refine one_ (i := 4) (N := some 99) #[true, true, true, true, true, false, false, false] rfl rfl (by kernel_rfl) (by decide) (fun K hK => ?_)
   refine Kd.R_lit_step k48 _ 48 ?hg (N := 99) ?hd (xs := [n]) (inner := [.bool n.f0, .int .i64 n.f1, .int .i64 n.f2, .int .i64 n.f3]) (ok := fun _ => True) (okp := fun _ => True) ?hr ?hp (fun _ hk => hk) trivial (Below.refl _ _) (Nat.le_refl _) (by simp) ?_
   case hd => rfl
   case hg => rfl
   case hr => first | (go_simp; done) | (go_simp; rfl)
   case hp => exact Reps.c4 (show Kd.M k48 _ _ _ n [.bool n.f0, .int .i64 n.f1, .int .i64 n.f2, .int .i64 n.f3] from k48_mkM _ _ _ n) (Reps.none _ _)
   intro v2 wb ho2 hb2 _ _
   refine hK.out _ _ ((HHeld.out.below hb).below hb2) (fun _ => ?_)
   refine norm_ (a' := ?_) ?_ ?_
   rotate_left
   ·show Act.put _ (some 99) _ = _
    simp only [Act.put, List.setIfInBounds_toArray, List.set_cons_zero, List.set_cons_succ, i64_w, i32_w]; rfl
   exact norm_ (by simp only [putAll, Act.put, List.setIfInBounds_toArray, List.set_cons_zero, List.set_cons_succ]) (hCont (v1, v2) _ ⟨(HHeld.out.below hb).below hb2, (HWJ.out.trans (hb.mono HWJ.out.size)).trans (hb2.mono (HWJ.out.trans (hb.mono HWJ.out.size)).size), Kd.R_lower (Kd.R_below (by simpa using ho) hb2) HWJ.out.size, Kd.R_lower ho2 (HWJ.out.trans (hb.mono HWJ.out.size)).size⟩)
  ·refine Kd.R_lit_step k48 _ 48 ?hg (N := 99) ?hd (xs := [n]) (inner := [.bool n.f0, .int .i64 n.f1, .int .i64 n.f2, .int .i64 n.f3]) (ok := fun _ => True) (okp := fun _ => True) ?hr ?hp (fun _ hk => hk) trivial (Below.refl _ _) (Nat.le_refl _) (by simp) ?_
   case hd => rfl
   case hg => rfl
   case hr => first | (go_simp; done) | (go_simp; rfl)
   case hp => exact Reps.c4 (show Kd.M k48 _ _ _ n [.bool n.f0, .int .i64 n.f1, .int .i64 n.f2, .int .i64 n.f3] from k48_mkM _ _ _ n) (Reps.none _ _)
   intro v2 wa ho hb _ _
   refine hK.out _ _ (HHeld.out.below hb) (fun _ => ?_)
   refine norm_ (a' := ?_) ?_ ?_
   rotate_left
   ·show Act.put _ (some 99) _ = _
    simp only [Act.put, List.setIfInBounds_toArray, List.set_cons_zero, List.set_cons_succ, i64_w, i32_w]; rfl
   clear hK K
   refine one_ (i := 2) (N := some 97) #[true, true, true, true, true, false, false, false] rfl rfl (by kernel_rfl) (by decide) (fun K hK => ?_)
   refine Kd.R_append_rows_step k48 (w0 := wa) wa.heap.size (by rfl) (.const (.slice none 0 0)) (.tmp 96) 36 48 (.agg #[(.bool false), (.int .i64 0), (.int .i64 0), (.int .i64 0)]) 32 rfl Try.underlying36 info48 rfl (by decide) (by omega) (.slice none 0 0) ([] : List S48) N _ _ _ (fun _ => True) (fun _ => False) rfl rfl (Kd.R_nil _ _ _ _ _) (HHeld.out.below hb).m.n (fun _ _ h => h) (fun _ h => h.elim) (fun _ _ => trivial) (Below.refl _ _) (Nat.le_refl _) (by have := HL1.out; simp only [List.length_nil]; omega) ?_
   intro v1 wb ho2 hb2 _ _
   refine hK.out _ _ ((HHeld.out.below hb).below hb2) (fun _ => ?_)
   refine norm_ (a' := ?_) ?_ ?_
   rotate_left
   ·show Act.put _ (some 97) _ = _
    simp only [Act.put, List.setIfInBounds_toArray, List.set_cons_zero, List.set_cons_succ, i64_w, i32_w]; rfl
   exact norm_ (by simp only [putAll, Act.put, List.setIfInBounds_toArray, List.set_cons_zero, List.set_cons_succ]) (hCont (v1, v2) _ ⟨(HHeld.out.below hb).below hb2, (HWJ.out.trans (hb.mono HWJ.out.size)).trans (hb2.mono (HWJ.out.trans (hb.mono HWJ.out.size)).size), Kd.R_lower (by simpa using ho2) (HWJ.out.trans (hb.mono HWJ.out.size)).size, Kd.R_lower (Kd.R_below ho hb2) HWJ.out.size⟩)
 rintro ⟨v1, v2⟩ wc ⟨hJ, hbc, hr1, hr2⟩
 dsimp only at hr1 hr2
 have HJ4 := Aside0.mk hJ
 have HBC := Aside0.mk hbc
 have HR1 := Aside0.mk hr1
 obtain ⟨A2, c2, rfl⟩ := Kd.R_slice hr2
 have HR2 := Aside0.mk hr2
 clear hJ hbc hr1 hr2 HHeld HWJ
 refine norm_ (a' := ?_) ?_ ?_
 rotate_left
 ·simp only [putAll, Act.put, List.setIfInBounds_toArray, List.set_cons_zero, List.set_cons_succ]; rfl
 refine one_ (i := 5) (N := some 100) #[true, true, true, true, true, true, false, false] rfl rfl (by kernel_rfl) (by decide) (fun K hK => ?_)
 refine Kd.R_append_rows_step k48 (w0 := wj) wj.heap.size (by rfl) (.tmp 97) (.tmp 99) 36 48 (.agg #[(.bool false), (.int .i64 0), (.int .i64 0), (.int .i64 0)]) 32 rfl Try.underlying36 info48 rfl (by decide) (by omega) v1 N [n] _ _ _ (fun _ => True) (fun _ => False) rfl rfl HR1.out (Kd.R_reads' HR2.out).2.2 (fun _ _ h => h) (fun _ h => h.elim) (fun _ _ => trivial) HBC.out HBC.out.size (by have := HL1.out; simp only [List.length_singleton]; omega) ?_
 intro v3 we ho3 hb3 _ _
 obtain ⟨A3, c3, rfl, hl3, hc3⟩ := Kd.R_reads ho3
 have HNew := Aside0.mk (fun ad e => Nat.le_trans HJ3.out.bel.size (row_fresh ho3 ad e))
 have HC3 := Aside0.mk hc3
 have HLC3 := Aside0.mk hl3
 have HJ5 := Aside0.mk (HJ3.out.below hb3)
 clear ho3 hb3 hc3 hl3 HR1 HR2 HBC HJ4
 refine hK.out _ _ HJ5.out (fun _ => ?_)
 clear hK K
 refine norm_ (a' := ?_) ?_ ?_
 rotate_left
 ·show Act.put _ (some 100) _ = _
  simp only [Act.put, List.setIfInBounds_toArray, List.set_cons_zero, List.set_cons_succ, i64_w, i32_w]; rfl
 refine pure_ (i := 6) (N := some 101) (v := ?_) (a' := ?_) #[true, true, true, true, true, true, true, false] rfl rfl (by kernel_rfl) (fun _ _ _ h => h) (Or.inl ⟨by rfl, ?_⟩) ?_ ?_
 rotate_left
 ·intro w'; go_simp; with_reducible rfl
 rotate_left
 ·simp only [Act.put, List.setIfInBounds_toArray, List.set_cons_zero, List.set_cons_succ, i64_w, i32_w]; rfl
 refine last_ (i := 7) (N := none) #[true, true, true, true, true, true, true, true] rfl rfl (by kernel_rfl) (by decide) (fun K hK => ?_)
 obtain ⟨hs0, hs1, hs2, hf0, hf1, hf2⟩ := bk3 HJ5.out.box
 refine skip_ (w1 := ?_) (by rfl) rfl ?_ ?_
 rotate_left
 ·go_simp; rfl
 refine hK.out _ _ ?_
 refine done_ (by kernel_rfl) ?_
 clear hs0 hs1 hs2 hf0 hf1 hf2 hK K
 have HJ6 := Aside0.mk (HJ5.out.setN HC3.out HLC3.out)
 rw [show N.length + 1 = (N ++ [n]).length by simp]
 obtain ⟨wn, hwn⟩ : ∃ W, W = we.setCell ⟨w.heap.size, 0, none⟩ (.slice A3 (N ++ [n]).length c3) := ⟨_, rfl⟩
 rw [← hwn] at HJ6 ⊢
 obtain ⟨N', hN'⟩ : ∃ x, x = N ++ [n] := ⟨_, rfl⟩
 rw [← hN'] at HJ6
 have HNN := Aside0.mk hN'
 clear HC3 HLC3 HJ5 HJ3 hwn hN'
 obtain ⟨ha0, ha1, ha2, hf0, hf1, hf2⟩ := bk3 HJ6.out.box
 go_wp2_with (first | ((with_reducible refine gate_builtin (b := .append) (xs := #[.const (.slice none 0 0), .tmp 103]) rfl ?_); at_builtin; refine Kd.R_append_rows (Kd.int .i64) (w0 := wn) wn.heap.size rfl (.const (.slice none 0 0)) (.tmp 103) 22 3 (.int .i64 0) 8 rfl Try.underlying22 info3 rfl (by decide) (by omega) (.slice none 0 0) ([] : List Int) G _ _ _ (fun _ => True) (fun _ => False) rfl rfl (Kd.R_nil _ _ _ _ _) HJ6.out.m.g (fun _ _ h => h) (fun _ h => h.elim) (fun _ _ => trivial) (Below.refl _ _) (Nat.le_refl _) (by have := HL1.out; have := HL2.out; simp only [List.length_nil]; omega) ?_; intro v1 wa ho hb _ _; have HO1 := Aside0.mk (show Kd.R (Kd.int .i64) 3 wa wn.heap.size (fun _ => True) v1 G by simpa using ho); have HBA := Aside0.mk hb; clear ho hb) | ((with_reducible refine gate_dst (N := 106) rfl ?_); refine Kd.R_lit (Kd.int .i64) _ 3 ?hg (N := 106) ?hd (xs := [(P.length : Int)]) (inner := [.int .i64 (P.length : Int)]) (ok := fun _ => True) (okp := fun _ => True) ?hr ?hp (fun _ hk => hk) trivial (Below.refl _ _) (Nat.le_refl _) (by simp) ?_; (case hd => rfl); (case hg => rfl); (case hr => first | (go_simp; done) | (go_simp; rfl)); (case hp => exact (Reps.one (show Kd.M (Kd.int .i64) _ _ _ (P.length : Int) [.int .i64 (P.length : Int)] from rfl) (Reps.none _ _))); intro v2 wb ho hb _ _; obtain ⟨A2, c2, rfl⟩ := Kd.R_slice ho; have HO2 := Aside0.mk ho; have HBB := Aside0.mk (HBA.out.trans (hb.mono HBA.out.size)); have HO3 := Aside0.mk (Kd.R_below HO1.out hb); clear ho hb HO1) | ((with_reducible refine gate_builtin (b := .append) (xs := #[.tmp 104, .tmp 106]) rfl ?_); at_builtin; refine Kd.R_append_rows (Kd.int .i64) (w0 := wn) wn.heap.size rfl (.tmp 104) (.tmp 106) 22 3 (.int .i64 0) 8 rfl Try.underlying22 info3 rfl (by decide) (by omega) v1 G [(P.length : Int)] _ _ _ (fun _ => True) (fun _ => False) rfl rfl HO3.out (Kd.R_reads' HO2.out).2.2 (fun _ _ h => h) (fun _ h => h.elim) (fun _ _ => trivial) HBB.out HBB.out.size (by have := HL1.out; have := HL2.out; simp only [List.length_singleton]; omega) ?_; intro v3 wc ho hb _ _; obtain ⟨A3, c3, rfl, hl3, hc3⟩ := Kd.R_reads ho; have HNew2 := Aside0.mk (fun ad e => Nat.le_trans HJ6.out.bel.size (row_fresh ho ad e)); have HC3 := Aside0.mk hc3; have HLC3 := Aside0.mk hl3; have HJ7 := Aside0.mk (HJ6.out.below hb); clear ho hb hl3 hc3; obtain ⟨hb0, hb1, hb2, hg0, hg1, hg2⟩ := bk3 HJ7.out.box))
 rw [show G.length + 1 = (G ++ [(P.length : Int)]).length by simp]
 have HJ8 := Aside0.mk (HJ7.out.setG HC3.out HLC3.out)
 obtain ⟨wg, hwg⟩ : ∃ W, W = wc.setCell ⟨w.heap.size, 1, none⟩ (.slice A3 (G ++ [(P.length : Int)]).length c3) := ⟨_, rfl⟩
 rw [← hwg] at HJ8 ⊢
 obtain ⟨G', hG'⟩ : ∃ x, x = G ++ [(P.length : Int)] := ⟨_, rfl⟩
 rw [← hG'] at HJ8 ⊢
 have HGG := Aside0.mk hG'
 clear HC3 HLC3 HJ7 HJ6 hwg hG' hb0 hb1 hb2 hg0 hg1 hg2 ha0 ha1 ha2 hf0 hf1 hf2 HO2 HO3 HBA HBB
 obtain ⟨hb0, hb1, hb2⟩ := HJ8.out.box.cells
 have p0 := fun d os => cell_regrown hb0 d os
 have p1 := fun d os => cell_regrown hb1 d os
 have p2 := fun d os => cell_regrown hb2 d os
 have cF := fun d os => QR.bel (rfind_at (P.length : Int) (HJ8.out.m.below (below_regrown wg d os)))
 refine QR.region 4 (by first | assumption | kernel_rfl) (by kernel_rfl) ?_
 simp only [List.take_succ_cons, List.take_zero, List.drop_succ_cons, List.drop_zero]
 repeat (refine QR.txt_step (fun K hK => ?_); have HK := Aside0.mk hK; clear hK; go_simp; first | (refine HK.out _ ?_; clear HK K) | (apply Exists.intro; refine ⟨fun _ => ?_, HK.out _ ?_⟩; (with_reducible exact cF _ _); clear HK K))
 refine QR.txt_nil ?_
 intro w5 hw5
 have HJ9 := Aside0.mk (HJ8.out.below hw5.below)
 clear p0 p1 p2 cF hw5 hb0 hb1 hb2
 obtain ⟨hy0, hy1, hy2, hf0, hf1, hf2⟩ := bk3 HJ9.out.res
 go_wp2
 have hlast := HJ9.out.last
 rw [← HNN.out, ← HGG.out, ← HRR.out]
 exact bodyPost_ret (results_ctt rfl _ _ (w.heap.size + 2) 38 #[.slice _ N'.length _, .slice _ G'.length _, .slice A5 R.length c5] (0, 0) _ rfl (kP HJ9.out.res) Try.underlying38 rfl (by kernel_rfl)) rfl ⟨_, _, _, _, _, _, rfl, hlast.1, HNew.out, HNew2.out, HNew3.out, hlast.2⟩
theorem rput_hand (n : S48) (g : Int) (h : MemoAt w AN cN N AG cG G AP cP P) : Calls Try.prog 48 #[.agg #[.slice AN N.length cN, .slice AG G.length cG, .slice AP P.length cP], .agg #[.bool n.f0, .int .i64 n.f1, .int .i64 n.f2, .int .i64 n.f3], .int .i64 g] w fun e w' => ∃ AN' cN' AG' cG' AP' cP', e = .returned (.tuple #[.agg #[.slice AN' (putT N G P n g).1.length cN', .slice AG' (putT N G P n g).2.1.length cG', .slice AP' (putT N G P n g).2.2.1.length cP'], .int .i64 (putT N G P n g).2.2.2.1, .int .i64 (putT N G P n g).2.2.2.2]) ∧ MemoAt w' AN' cN' (putT N G P n g).1 AG' cG' (putT N G P n g).2.1 AP' cP' (putT N G P n g).2.2.1 ∧ Hand w.heap.size AN N AN' (putT N G P n g).1 ∧ Hand w.heap.size AG G AG' (putT N G P n g).2.1 ∧ Hand w.heap.size AP P AP' (putT N G P n g).2.2.1 ∧ Below w.heap.size w w' := by
 unfold putT
 by_cases hc : (mayMB N G P && (nodeB P n && (decide (g = -1) || inB P g))) = true
 ·rw [if_pos hc]
  simp only [Bool.and_eq_true, Bool.or_eq_true, decide_eq_true_eq] at hc
  obtain ⟨hm, hn, hg⟩ := hc
  obtain ⟨⟨x, b⟩, hl⟩ : ∃ l, l = lookS N G P n := ⟨_, rfl⟩
  rw [← hl]
  dsimp only
  cases b with
  | true =>
   rw [if_pos rfl]
   by_cases he : g = -1 ∨ findS P g = x
   ·rw [if_pos he]
    exact (rput_has n g x h hm hn (by rcases he with h | h; exact .inl h; exact hg.imp id fun k => ⟨k, h⟩) hl.symm).mono fun e w' ⟨he, hb⟩ => ⟨_, _, _, _, _, _, he, h.below hb, Hand.refl _ _ _, Hand.refl _ _ _, Hand.refl _ _ _, hb⟩
   ·rw [if_neg he]
    exact (rput_merge n g x h hm hn (by rcases hg with h | h; exact absurd (Or.inl h) he; exact h) (fun k => he (.inr k)) hl.symm).mono fun e w' ⟨A, c, he, hM, hh, hb⟩ => ⟨_, _, _, _, _, _, he, hM, Hand.refl _ _ _, Hand.refl _ _ _, hh, hb⟩
  | false =>
   rw [if_neg (by decide)]
   by_cases hf : N.length = 400 ∨ g = -1 ∧ P.length = 400
   ·rw [if_pos hf]
    exact (rput_full n g x h hm hn hg hl.symm (by by_cases k : N.length = 400; exact .inl k; exact .inr ⟨k, by omega⟩)).mono fun e w' ⟨he, hb⟩ => ⟨_, _, _, _, _, _, he, h.below hb, Hand.refl _ _ _, Hand.refl _ _ _, Hand.refl _ _ _, hb⟩
   ·rw [if_neg hf]
    by_cases hg1 : g = -1
    ·rw [if_pos hg1]
     subst hg1
     exact (rput_own n x h hm hn hl.symm (by omega) (by omega)).mono fun e w' ⟨_, _, _, _, _, _, he, hM, k1, k2, k3, hb⟩ => ⟨_, _, _, _, _, _, he, hM, .inr k1, .inr k2, .inr k3, hb⟩
    ·rw [if_neg hg1]
     exact (rput_new n g x h hm hn (by rcases hg with h | h; exact absurd h hg1; exact h) hl.symm (by omega)).mono fun e w' ⟨_, _, _, _, he, hM, k1, k2, hb⟩ => ⟨_, _, _, _, _, _, he, hM, .inr k1, .inr k2, Hand.refl _ _ _, hb⟩
 ·rw [if_neg hc]
  refine (rput_no n g h ?_).mono fun e w' ⟨he, hb⟩ => ⟨_, _, _, _, _, _, he, h.below hb, Hand.refl _ _ _, Hand.refl _ _ _, Hand.refl _ _ _, hb⟩
  cases hm : mayMB N G P with
  | false => exact .inl rfl
  | true =>
   refine .inr ⟨rfl, ?_⟩
   cases hn : nodeB P n with
   | false => exact .inl rfl
   | true =>
    refine .inr ⟨rfl, ?_⟩
    rw [hm, hn] at hc
    simp only [Bool.true_and, Bool.or_eq_true, decide_eq_true_eq, inB_iff] at hc
    omega
end
end Go.Proofs.Ytkidnomkfdnciaa.All
namespace Go.Proofs.Ytkidnomkfdnciaa.All
open Go.RowKit Go.Proofs.YtkidnomkfdnciaaW.PrintWords Go.Proofs.YtkidnomkfdnciaaW.PrintLast Go.Proofs.YtkidnomkfdnciaaW.PrintMore
attribute [local go_sem] max2_int min2_int max_two min_two max_three min_three max_four min_four
set_option linter.unusedVariables false
set_option linter.unusedSimpArgs false
def calls_own.f (k : Nat) (l0_0 : List (S48)) (l0_1 : List Int) (l0_2 : List Int) : Option ((List (S48)) × List Int × List Int) := (api_Node_94.f k l0_0).bind fun t13 => ((slices_Clone_int_int.f k l0_1).bind fun t16 => ((slices_Clone_int_int.f k l0_2).bind fun t19 => (some (t13, t16, t19))))
def calls_own.T1 : Bool × List (List Nat × List Nat) := (true, [([], []), ([0], [0]), ([1], [1]), ([], []), ([3], [3]), ([4, 2], [4]), ([], []), ([6], [6]), ([7, 5], [7]), ([2, 5, 8], [2, 5, 8]), ([9, 8, 0, 1, 2, 3, 4, 5, 6, 7, 8, 9], [9])])
def calls_own.B1 : List Nat := [0, 1, 3, 0, 8, 31, 0, 64, 255, 511, 1023]
theorem calls_own.tab1 : rtab .any (opsOf Try.f86 1) = calls_own.T1 := by kernel_rfl
theorem calls_own.bits1 : waitsOk calls_own.T1.2 calls_own.B1 = true := by kernel_rfl
set_option maxHeartbeats 8000000 in
set_option maxRecDepth 100000 in
theorem calls_own.calls (k : Nat) (A0_0 : Option Addr) (c0_0 : Nat) (l0_0 : List (S48)) (A0_1 : Option Addr) (c0_1 : Nat) (l0_1 : List Int) (A0_2 : Option Addr) (c0_2 : Nat) (l0_2 : List Int) (r1 : List (S48)) (r2 : List Int) (r3 : List Int) (w : World) (hr0_0 : Kd.C k48 w A0_0 l0_0.length l0_0) (hc0_0 : l0_0.length ≤ c0_0) (hr0_1 : Kd.C (Kd.int .i64) w A0_1 l0_1.length l0_1) (hc0_1 : l0_1.length ≤ c0_1) (hr0_2 : Kd.C (Kd.int .i64) w A0_2 l0_2.length l0_2) (hc0_2 : l0_2.length ≤ c0_2) (h : calls_own.f k l0_0 l0_1 l0_2 = some (r1, r2, r3)) :
  Calls Try.prog 86 #[.agg #[.slice A0_0 l0_0.length c0_0, .slice A0_1 l0_1.length c0_1, .slice A0_2 l0_2.length c0_2]] w fun e w' => ∃ v0_ v1_ v2_ : Value, e = .returned (.agg #[v0_, v1_, v2_]) ∧ Kd.R k48 48 w' w.heap.size (fun _ => True) v0_ r1 ∧ Kd.R (Kd.int .i64) 3 w' w.heap.size (fun k_ => some k_ ≠ (v2_ : Value).ownBlock) v1_ r2 ∧ Kd.R (Kd.int .i64) 3 w' w.heap.size (fun k_ => some k_ ≠ (v1_ : Value).ownBlock) v2_ r3 ∧ Below w.heap.size w w' := by
 have hu38 := Try.underlying38
 have HR0_0 := Aside0.mk hr0_0
 have HC0_0 := Aside0.mk hc0_0
 clear hr0_0 hc0_0
 have HR0_1 := Aside0.mk hr0_1
 have HC0_1 := Aside0.mk hc0_1
 clear hr0_1 hc0_1
 have HR0_2 := Aside0.mk hr0_2
 have HC0_2 := Aside0.mk hc0_2
 clear hr0_2 hc0_2
 have HB := Aside0.mk (Below.refl w.heap.size w)
 have H : ((api_Node_94.f k l0_0).bind fun t13 => ((slices_Clone_int_int.f k l0_1).bind fun t16 => ((slices_Clone_int_int.f k l0_2).bind fun t19 => (some (t13, t16, t19))))) = some (r1, r2, r3) := h
 clear h
 replace H := Option.bind_eq_some_iff.mp H
 obtain ⟨t13, A20, H⟩ := H
 replace H : ((slices_Clone_int_int.f k l0_1).bind fun t16 => ((slices_Clone_int_int.f k l0_2).bind fun t19 => (some (t13, t16, t19)))) = some (r1, r2, r3) := H
 have A2 := Aside0.mk A20
 clear A20
 replace H := Option.bind_eq_some_iff.mp H
 obtain ⟨t16, A30, H⟩ := H
 replace H : ((slices_Clone_int_int.f k l0_2).bind fun t19 => (some (t13, t16, t19))) = some (r1, r2, r3) := H
 have A3 := Aside0.mk A30
 clear A30
 replace H := Option.bind_eq_some_iff.mp H
 obtain ⟨t19, A40, H⟩ := H
 replace H : (some (t13, t16, t19)) = some (r1, r2, r3) := H
 have A4 := Aside0.mk A40
 clear A40
 simp only [Option.some.injEq, Prod.mk.injEq] at H
 obtain ⟨rfl, rfl, rfl⟩ := H
 go_enter Try.func86, Try.ntmps86
 try go_wp2_with (first | ((with_reducible refine gate_dst (N := 1) rfl ?_); refine box_event ?hg (N := 1) ?hd (cs := #[.slice A0_0 l0_0.length c0_0, .slice A0_1 l0_1.length c0_1, .slice A0_2 l0_2.length c0_2]) (t := 38) ?hr ?_; (case hd => rfl); (case hg => rfl); (case hr => first | (go_simp; done) ); intro gb11 hg w5 hbox hb; have n0_ := Aside0.mk (below_step (by repeat ((with_reducible first | exact HB.out ))) hb); have n1_ := Aside0.mk (hbox); have n2_ := Aside0.mk ((by rw [hg]; exact (below_size (by repeat ((with_reducible first | exact HB.out )))) : w.heap.size ≤ gb11)); have n3_ := Aside0.mk ((by rw [hg]; exact (below_size (by repeat ((with_reducible first | exact HB.out )))) : w.heap.size ≤ gb11)); clear HB; have HB := n0_; have BK11 := n1_; have GW11 := n2_; have GE11 := n3_; clear n0_ n1_ n2_ n3_; clear hb hbox hg) | ((with_reducible refine gate_dst (N := 2) rfl ?_); refine box_event ?hg (N := 2) ?hd (cs := #[.slice none 0 0, .slice none 0 0, .slice none 0 0]) (t := 38) ?hr ?_; (case hd => rfl); (case hg => rfl); (case hr => first | (go_simp; done) ); intro gb12 hg w6 hbox hb; have n0_ := Aside0.mk (blk_below (g := gb11) (o := .cells #[.slice A0_0 l0_0.length c0_0, .slice A0_1 l0_1.length c0_1, .slice A0_2 l0_2.length c0_2] 38 (0, 0)) (by (with_reducible repeat (first | refine blk_drewN ?_ _ | refine blk_drew ?_ | refine blk_alloc ?_ _)); exact BK11.out) hb); have n1_ := Aside0.mk (below_step (by repeat ((with_reducible first | exact HB.out ))) hb); have n2_ := Aside0.mk (hbox); have n3_ := Aside0.mk ((by rw [hg]; exact (below_size (by repeat ((with_reducible first | exact HB.out )))) : w.heap.size ≤ gb12)); have n4_ := Aside0.mk ((by rw [hg]; exact (below_size (by repeat ((with_reducible first | exact HB.out )))) : w.heap.size ≤ gb12)); have n5_ := Aside0.mk ((by rw [hg]; exact Nat.ne_of_lt (blk_lt (g := gb11) (o := .cells #[.slice A0_0 l0_0.length c0_0, .slice A0_1 l0_1.length c0_1, .slice A0_2 l0_2.length c0_2] 38 (0, 0)) (by (with_reducible repeat (first | refine blk_drewN ?_ _ | refine blk_drew ?_ | refine blk_alloc ?_ _)); exact BK11.out)) : gb11 ≠ gb12)); have n6_ := Aside0.mk ((by rw [hg]; exact Nat.ne_of_gt (blk_lt (g := gb11) (o := .cells #[.slice A0_0 l0_0.length c0_0, .slice A0_1 l0_1.length c0_1, .slice A0_2 l0_2.length c0_2] 38 (0, 0)) (by (with_reducible repeat (first | refine blk_drewN ?_ _ | refine blk_drew ?_ | refine blk_alloc ?_ _)); exact BK11.out)) : gb12 ≠ gb11)); clear BK11; clear HB; have BK11 := n0_; have HB := n1_; have BK12 := n2_; have GW12 := n3_; have GE12 := n4_; have NB11_12 := n5_; have NB12_11 := n6_; clear n0_ n1_ n2_ n3_ n4_ n5_ n6_; clear hb hbox hg))
 have n0_ := Aside0.mk (blk_drew BK11.out)
 have n1_ := Aside0.mk (blk_drew BK12.out)
 have n2_ := Aside0.mk (below_drew1 HB.out)
 clear BK11
 clear BK12
 clear HB
 have BK11 := n0_
 have BK12 := n1_
 have HB := n2_
 clear n0_ n1_ n2_
 refine start_ (n := 11) (S := fun w' => w'.cell? ⟨gb11, 0, none⟩ = some (.slice A0_0 l0_0.length c0_0) ∧ w'.cell? ⟨gb11, 1, none⟩ = some (.slice A0_1 l0_1.length c0_1) ∧ w'.cell? ⟨gb11, 2, none⟩ = some (.slice A0_2 l0_2.length c0_2)) (ds := []) #[false, false, false, false, false, false, false, false, false, false, false] (by kernel_rfl) rfl rfl ⟨(blk_cell BK11.out 0).trans rfl, (blk_cell BK11.out 1).trans rfl, (blk_cell BK11.out 2).trans rfl⟩ (fun hHeld => ?_); refine with_tabW calls_own.tab1 calls_own.bits1 (fun HT_ HW_ => ?_)
 generalize w6.drew = w7 at BK11 BK12 HB hHeld ⊢
 refine pure_ (i := 0) (N := some 3) (v := ?_) (a' := ?_) #[true, false, false, false, false, false, false, false, false, false, false] rfl rfl (any_of HT_.out (by kernel_rfl)) (fun _ _ _ h => h) (Or.inl ⟨by rfl, ?_⟩) ?_ ?_
 rotate_left
 ·intro w'
  go_simp
  with_reducible rfl
 rotate_left
 ·simp only [Act.put, List.setIfInBounds_toArray, List.set_cons_zero, List.set_cons_succ, i64_w, i32_w]
  rfl
 refine pure_ (i := 3) (N := some 6) (v := ?_) (a' := ?_) #[true, false, false, true, false, false, false, false, false, false, false] rfl rfl (any_of HT_.out (by kernel_rfl)) (fun _ _ _ h => h) (Or.inl ⟨by rfl, ?_⟩) ?_ ?_
 rotate_left
 ·intro w'
  go_simp
  with_reducible rfl
 rotate_left
 ·simp only [Act.put, List.setIfInBounds_toArray, List.set_cons_zero, List.set_cons_succ, i64_w, i32_w]
  rfl
 refine pure_ (i := 6) (N := some 9) (v := ?_) (a' := ?_) #[true, false, false, true, false, false, true, false, false, false, false] rfl rfl (any_of HT_.out (by kernel_rfl)) (fun _ _ _ h => h) (Or.inl ⟨by rfl, ?_⟩) ?_ ?_
 rotate_left
 ·intro w'
  go_simp
  with_reducible rfl
 rotate_left
 ·simp only [Act.put, List.setIfInBounds_toArray, List.set_cons_zero, List.set_cons_succ, i64_w, i32_w]
  rfl
 refine take_ (i := 1) (N := some 4) (v := ?_) (a' := ?_) #[true, true, false, true, false, false, true, false, false, false, false] rfl rfl (take_ofW HT_.out HW_.out (by kernel_rfl)) (fun _ _ _ h => h) (Or.inl ⟨by rfl, ?_⟩) hHeld ?_ ?_
 rotate_left
 ·rintro w' ⟨s0, s1, s2⟩
  go_simp
  with_reducible rfl
 rotate_left
 ·simp only [Act.put, List.setIfInBounds_toArray, List.set_cons_zero, List.set_cons_succ, i64_w, i32_w]
  rfl
 refine take_ (i := 4) (N := some 7) (v := ?_) (a' := ?_) #[true, true, false, true, true, false, true, false, false, false, false] rfl rfl (take_ofW HT_.out HW_.out (by kernel_rfl)) (fun _ _ _ h => h) (Or.inl ⟨by rfl, ?_⟩) hHeld ?_ ?_
 rotate_left
 ·rintro w' ⟨s0, s1, s2⟩
  go_simp
  with_reducible rfl
 rotate_left
 ·simp only [Act.put, List.setIfInBounds_toArray, List.set_cons_zero, List.set_cons_succ, i64_w, i32_w]
  rfl
 refine take_ (i := 7) (N := some 10) (v := ?_) (a' := ?_) #[true, true, false, true, true, false, true, true, false, false, false] rfl rfl (take_ofW HT_.out HW_.out (by kernel_rfl)) (fun _ _ _ h => h) (Or.inl ⟨by rfl, ?_⟩) hHeld ?_ ?_
 rotate_left
 ·rintro w' ⟨s0, s1, s2⟩
  go_simp
  with_reducible rfl
 rotate_left
 ·simp only [Act.put, List.setIfInBounds_toArray, List.set_cons_zero, List.set_cons_succ, i64_w, i32_w]
  rfl
 refine one_ (i := 2) (N := some 5) #[true, true, true, true, true, false, true, true, false, false, false] rfl rfl (one_of HT_.out (by kernel_rfl)) (by decide) (fun K hK => ?_)
 refine goes_ Try.func94 (by kernel_rfl) rfl #[.slice A0_0 l0_0.length c0_0] (by rfl) rfl rfl (by (try simp only [List.map_toArray, List.map_cons, List.map_nil]); first | rfl ) ?_
 with_reducible refine (api_Node_94.calls k _ _ l0_0 t13 _ ?side1 ?side2 A2.out).mono ?_
 (case side1 => repeat (exact (Kd.C_below HR0_0.out HB.out)))
 (case side2 => exact HC0_0.out)
 rintro e w8 ⟨v14, rfl, ho0, hb⟩
 refine ⟨_, rfl, ?_⟩
 have n0_ := Aside0.mk (Kd.R_lower ho0 (below_size (by repeat ((with_reducible first | exact HB.out )))))
 have n1_ := Aside0.mk (blk_below (g := gb11) (o := .cells #[.slice A0_0 l0_0.length c0_0, .slice A0_1 l0_1.length c0_1, .slice A0_2 l0_2.length c0_2] 38 (0, 0)) (by (with_reducible repeat (first | refine blk_drewN ?_ _ | refine blk_drew ?_ | refine blk_alloc ?_ _)); exact BK11.out) hb)
 have n2_ := Aside0.mk (blk_below (g := gb12) (o := .cells #[.slice none 0 0, .slice none 0 0, .slice none 0 0] 38 (0, 0)) (by (with_reducible repeat (first | refine blk_drewN ?_ _ | refine blk_drew ?_ | refine blk_alloc ?_ _)); exact BK12.out) hb)
 have n3_ := Aside0.mk (below_step (by repeat ((with_reducible first | exact HB.out ))) hb)
 clear BK11
 clear BK12
 clear HB
 have HO15 := n0_
 have BK11 := n1_
 have BK12 := n2_
 have HB := n3_
 clear n0_ n1_ n2_ n3_
 (try clear hb)
 (try clear hb2)
 (try clear hk)
 (try clear hi)
 (try clear ho0)
 refine hK.out _ _ ⟨(blk_cell BK11.out 0).trans rfl, (blk_cell BK11.out 1).trans rfl, (blk_cell BK11.out 2).trans rfl⟩ (fun hHeld => ?_)
 clear hK K
 refine norm_ (a' := ?_) ?_ ?_
 rotate_left
 ·show Act.put _ (some 5) _ = _
  simp only [Act.put, List.setIfInBounds_toArray, List.set_cons_zero, List.set_cons_succ, i64_w, i32_w]
  rfl
 refine one_ (i := 5) (N := some 8) #[true, true, true, true, true, true, true, true, false, false, false] rfl rfl (one_of HT_.out (by kernel_rfl)) (by decide) (fun K hK => ?_)
 refine goes_ Try.func72 (by kernel_rfl) rfl #[.slice A0_1 l0_1.length c0_1] (by rfl) rfl rfl (by (try simp only [List.map_toArray, List.map_cons, List.map_nil]); first | rfl ) ?_
 with_reducible refine (slices_Clone_int_int.calls k _ _ l0_1 t16 _ ?side1 ?side2 A3.out).mono ?_
 (case side1 => repeat (exact (Kd.C_below HR0_1.out HB.out)))
 (case side2 => exact HC0_1.out)
 rintro e w9 ⟨v17, rfl, ho0, hb⟩
 refine ⟨_, rfl, ?_⟩
 have n0_ := Aside0.mk (Kd.R_below (by (with_reducible repeat (first | apply Kd.R_alloc | apply Kd.R_drewN | apply Kd.R_drew)); exact HO15.out) hb)
 have n1_ := Aside0.mk (Kd.R_lower ho0 (below_size (by repeat ((with_reducible first | exact HB.out )))))
 have n2_ := Aside0.mk (blk_below (g := gb11) (o := .cells #[.slice A0_0 l0_0.length c0_0, .slice A0_1 l0_1.length c0_1, .slice A0_2 l0_2.length c0_2] 38 (0, 0)) (by (with_reducible repeat (first | refine blk_drewN ?_ _ | refine blk_drew ?_ | refine blk_alloc ?_ _)); exact BK11.out) hb)
 have n3_ := Aside0.mk (blk_below (g := gb12) (o := .cells #[.slice none 0 0, .slice none 0 0, .slice none 0 0] 38 (0, 0)) (by (with_reducible repeat (first | refine blk_drewN ?_ _ | refine blk_drew ?_ | refine blk_alloc ?_ _)); exact BK12.out) hb)
 have n4_ := Aside0.mk (below_step (by repeat ((with_reducible first | exact HB.out ))) hb)
 clear HO15
 clear BK11
 clear BK12
 clear HB
 have HO15 := n0_
 have HO18 := n1_
 have BK11 := n2_
 have BK12 := n3_
 have HB := n4_
 clear n0_ n1_ n2_ n3_ n4_
 (try clear hb)
 (try clear hb2)
 (try clear hk)
 (try clear hi)
 (try clear ho0)
 refine hK.out _ _ ⟨(blk_cell BK11.out 0).trans rfl, (blk_cell BK11.out 1).trans rfl, (blk_cell BK11.out 2).trans rfl⟩ (fun hHeld => ?_)
 clear hK K
 refine norm_ (a' := ?_) ?_ ?_
 rotate_left
 ·show Act.put _ (some 8) _ = _
  simp only [Act.put, List.setIfInBounds_toArray, List.set_cons_zero, List.set_cons_succ, i64_w, i32_w]
  rfl
 refine one_ (i := 8) (N := some 11) #[true, true, true, true, true, true, true, true, true, false, false] rfl rfl (one_of HT_.out (by kernel_rfl)) (by decide) (fun K hK => ?_)
 refine goes_ Try.func72 (by kernel_rfl) rfl #[.slice A0_2 l0_2.length c0_2] (by rfl) rfl rfl (by (try simp only [List.map_toArray, List.map_cons, List.map_nil]); first | rfl ) ?_
 with_reducible refine (slices_Clone_int_int.calls k _ _ l0_2 t19 _ ?side1 ?side2 A4.out).mono ?_
 (case side1 => repeat (exact (Kd.C_below HR0_2.out HB.out)))
 (case side2 => exact HC0_2.out)
 rintro e w10 ⟨v20, rfl, ho0, hb⟩
 refine ⟨_, rfl, ?_⟩
 have n0_ := Aside0.mk (Kd.R_below (by (with_reducible repeat (first | apply Kd.R_alloc | apply Kd.R_drewN | apply Kd.R_drew)); exact HO15.out) hb)
 have n1_ := Aside0.mk (Kd.R_elder' (by (with_reducible repeat (first | apply Kd.R_alloc | apply Kd.R_drewN | apply Kd.R_drew)); exact HO18.out) (Kd.R_base ho0) hb)
 have n2_ := Aside0.mk (Kd.R_lower (Kd.R_new' ho0 (Kd.R_lt (by (with_reducible repeat (first | apply Kd.R_alloc | apply Kd.R_drewN | apply Kd.R_drew)); exact HO18.out))) (below_size (by repeat ((with_reducible first | exact HB.out )))))
 have n3_ := Aside0.mk (blk_below (g := gb11) (o := .cells #[.slice A0_0 l0_0.length c0_0, .slice A0_1 l0_1.length c0_1, .slice A0_2 l0_2.length c0_2] 38 (0, 0)) (by (with_reducible repeat (first | refine blk_drewN ?_ _ | refine blk_drew ?_ | refine blk_alloc ?_ _)); exact BK11.out) hb)
 have n4_ := Aside0.mk (blk_below (g := gb12) (o := .cells #[.slice none 0 0, .slice none 0 0, .slice none 0 0] 38 (0, 0)) (by (with_reducible repeat (first | refine blk_drewN ?_ _ | refine blk_drew ?_ | refine blk_alloc ?_ _)); exact BK12.out) hb)
 have n5_ := Aside0.mk (below_step (by repeat ((with_reducible first | exact HB.out ))) hb)
 clear HO15
 clear HO18
 clear BK11
 clear BK12
 clear HB
 have HO15 := n0_
 have HO18 := n1_
 have HO21 := n2_
 have BK11 := n3_
 have BK12 := n4_
 have HB := n5_
 clear n0_ n1_ n2_ n3_ n4_ n5_
 (try clear hb)
 (try clear hb2)
 (try clear hk)
 (try clear hi)
 (try clear ho0)
 obtain ⟨Ao11, co11, eo11⟩ := Kd.R_slice HO21.out
 (subst eo11)
 obtain ⟨Ao12, co12, eo12⟩ := Kd.R_slice HO18.out
 (subst eo12)
 obtain ⟨Ao13, co13, eo13⟩ := Kd.R_slice HO15.out
 (subst eo13)
 refine hK.out _ _ ⟨(blk_cell BK11.out 0).trans rfl, (blk_cell BK11.out 1).trans rfl, (blk_cell BK11.out 2).trans rfl⟩ (fun hHeld => ?_)
 clear hK K
 refine norm_ (a' := ?_) ?_ ?_
 rotate_left
 ·show Act.put _ (some 11) _ = _
  simp only [Act.put, List.setIfInBounds_toArray, List.set_cons_zero, List.set_cons_succ, i64_w, i32_w]
  rfl
 refine pure_ (i := 9) (N := some 12) (v := ?_) (a' := ?_) #[true, true, true, true, true, true, true, true, true, true, false] rfl rfl (any_of HT_.out (by kernel_rfl)) (fun _ _ _ h => h) (Or.inl ⟨by rfl, ?_⟩) ?_ ?_
 rotate_left
 ·intro w'
  go_simp
  with_reducible rfl
 rotate_left
 ·simp only [Act.put, List.setIfInBounds_toArray, List.set_cons_zero, List.set_cons_succ, i64_w, i32_w]
  rfl
 refine one_ (i := 10) (N := none) #[true, true, true, true, true, true, true, true, true, true, true] rfl rfl (one_of HT_.out (by kernel_rfl)) (by decide) (fun K hK => ?_)
 have hs14 : w10.cell? ⟨gb12, 0, none⟩ = some (.slice none 0 0) := (blk_cell BK12.out 0).trans rfl
 have hfs14 := blk_frozen BK12.out 0
 have hns14_0 := NB11_12.out
 have hms14_0 := NB12_11.out
 have hs15 : w10.cell? ⟨gb12, 1, none⟩ = some (.slice none 0 0) := (blk_cell BK12.out 1).trans rfl
 have hfs15 := blk_frozen BK12.out 1
 have hns15_0 := NB11_12.out
 have hms15_0 := NB12_11.out
 have hs16 : w10.cell? ⟨gb12, 2, none⟩ = some (.slice none 0 0) := (blk_cell BK12.out 2).trans rfl
 have hfs16 := blk_frozen BK12.out 2
 have hns16_0 := NB11_12.out
 have hms16_0 := NB12_11.out
 refine skip_ (w1 := ?_) (by rfl) rfl ?_ ?_
 rotate_left
 ·go_simp
  rfl
 refine hK.out _ _ ⟨((cell_far (p := ⟨gb12, _, none⟩) NB11_12.out _).trans (((cell_far (p := ⟨gb12, _, none⟩) NB11_12.out _).trans (((cell_far (p := ⟨gb12, _, none⟩) NB11_12.out _).trans (hHeld.1)))))), ((cell_far (p := ⟨gb12, _, none⟩) NB11_12.out _).trans (((cell_far (p := ⟨gb12, _, none⟩) NB11_12.out _).trans (((cell_far (p := ⟨gb12, _, none⟩) NB11_12.out _).trans (hHeld.2.1)))))), ((cell_far (p := ⟨gb12, _, none⟩) NB11_12.out _).trans (((cell_far (p := ⟨gb12, _, none⟩) NB11_12.out _).trans (((cell_far (p := ⟨gb12, _, none⟩) NB11_12.out _).trans (hHeld.2.2))))))⟩ (fun hHeld => ?_)
 clear hK K
 refine done_ (done_of HT_.out (by kernel_rfl)) ?_
 try go_wp2
 refine bodyPost_ret (results_cell_row rfl _ _ gb12 38 #[.slice Ao13 t13.length co13, .slice Ao12 t16.length co12, .slice Ao11 t19.length co11] (0, 0) _ rfl (by (with_reducible repeat (first | refine blk_drewN ?_ _ | refine blk_drew ?_ | refine blk_alloc ?_ _)); refine blk_put (cs := #[.slice Ao13 t13.length co13, .slice Ao12 t16.length co12, .slice none 0 0]) ?_ 2 _ rfl; (with_reducible repeat (first | refine blk_drewN ?_ _ | refine blk_drew ?_ | refine blk_alloc ?_ _)); refine blk_put (cs := #[.slice Ao13 t13.length co13, .slice none 0 0, .slice none 0 0]) ?_ 1 _ rfl; (with_reducible repeat (first | refine blk_drewN ?_ _ | refine blk_drew ?_ | refine blk_alloc ?_ _)); refine blk_put (cs := #[.slice none 0 0, .slice none 0 0, .slice none 0 0]) ?_ 0 _ rfl; (with_reducible repeat (first | refine blk_drewN ?_ _ | refine blk_drew ?_ | refine blk_alloc ?_ _)); exact BK12.out) Try.underlying38 rfl (by kernel_rfl)) rfl ?_
 exact ⟨_, _, _, by rfl, by (with_reducible repeat (first | apply Kd.R_alloc | apply Kd.R_drewN | apply Kd.R_drew)); exact Kd.R_mono (Kd.R_far (p := ⟨gb12, 2, none⟩) (Kd.R_far (p := ⟨gb12, 1, none⟩) (Kd.R_far (p := ⟨gb12, 0, none⟩) (Kd.R_types HO15.out BK12.out (by decide)) (fun _ hk => hk.2) (.slice Ao13 t13.length co13)) (fun _ hk => hk.2) (.slice Ao12 t16.length co12)) (fun _ hk => hk.2) (.slice Ao11 t19.length co11)) (fun _ hk => trivial), by (with_reducible repeat (first | apply Kd.R_alloc | apply Kd.R_drewN | apply Kd.R_drew)); exact Kd.R_mono (Kd.R_far (p := ⟨gb12, 2, none⟩) (Kd.R_far (p := ⟨gb12, 1, none⟩) (Kd.R_far (p := ⟨gb12, 0, none⟩) (Kd.R_types HO18.out BK12.out (by decide)) (fun _ hk => hk.2) (.slice Ao13 t13.length co13)) (fun _ hk => hk.2) (.slice Ao12 t16.length co12)) (fun _ hk => hk.2) (.slice Ao11 t19.length co11)) (fun _ hk => hk.1.2), by (with_reducible repeat (first | apply Kd.R_alloc | apply Kd.R_drewN | apply Kd.R_drew)); exact Kd.R_mono (Kd.R_far (p := ⟨gb12, 2, none⟩) (Kd.R_far (p := ⟨gb12, 1, none⟩) (Kd.R_far (p := ⟨gb12, 0, none⟩) (Kd.R_types HO21.out BK12.out (by decide)) (fun _ hk => hk.2) (.slice Ao13 t13.length co13)) (fun _ hk => hk.2) (.slice Ao12 t16.length co12)) (fun _ hk => hk.2) (.slice Ao11 t19.length co11)) (fun _ hk => hk.1.2), by repeat ((with_reducible first | exact HB.out | refine below_set ?_ GE12.out))⟩
end Go.Proofs.Ytkidnomkfdnciaa.All
namespace Go.Proofs.Ytkidnomkfdnciaa.All
open Go.RowKit Go.Proofs.YtkidnomkfdnciaaW.PrintWords Go.Proofs.YtkidnomkfdnciaaW.PrintLast Go.Proofs.YtkidnomkfdnciaaW.PrintMore
attribute [local go_sem] max2_int min2_int max_two min_two max_three min_three max_four min_four
set_option linter.unusedVariables false
set_option linter.unusedSimpArgs false
def calls_there.f (a0 : Int) : Option (Int × Int) := if a0 = (-1) then (some ((-1), 2)) else (some (a0, 0))
set_option maxHeartbeats 8000000 in
set_option maxRecDepth 100000 in
theorem calls_there.calls (a0 : Int) (r1 : Int) (r2 : Int) (w : World) (h : calls_there.f a0 = some (r1, r2)) :
  Calls Try.prog 89 #[.int .i64 a0] w fun e w' => e = .returned (.agg #[.int .i64 r1, .int .i64 r2]) ∧ Below w.heap.size w w' := by
 have hu73 := Try.underlying73
 have HB := Aside0.mk (Below.refl w.heap.size w)
 have H : (if a0 = (-1) then (some ((-1), 2)) else (some (a0, 0))) = some (r1, r2) := h
 clear h
 by_cases c2 : a0 = (-1)
 ·rw [if_pos c2] at H
  have c2b0 : (a0 == (-1)) = true := beq_iff_eq.mpr c2
  have c2b1 : (a0 != (-1)) = false := bne_eq_false_iff_eq.mpr c2
  clear c2
  simp only [Option.some.injEq, Prod.mk.injEq] at H
  obtain ⟨rfl, rfl⟩ := H
  go_enter Try.func89, Try.ntmps89
  go_wp2_with (((with_reducible refine gate_dst (N := 2) rfl ?_); refine box_event ?hg (N := 2) ?hd (cs := #[.int .i64 0, .int .i64 0]) (t := 73) ?hr ?_; (case hd => rfl); (case hg => rfl); (case hr => first | (go_simp; done) ); intro gb11 hg w3 hbox hb; have BK11 := Aside0.mk (hbox); have GW11 := Aside0.mk ((by rw [hg]; exact (below_size (by repeat ((with_reducible first | exact HB.out )))) : w.heap.size ≤ gb11)); have GE11 := Aside0.mk ((by rw [hg]; exact (below_size (by repeat ((with_reducible first | exact HB.out )))) : w.heap.size ≤ gb11)); replace HB := Aside0.mk (below_step (by repeat ((with_reducible first | exact HB.out ))) hb); clear hb hbox hg; obtain ⟨hcz4_0, hcz4_1, hfz4_0, hfz4_1⟩ := bk2 BK11.out))
  refine bodyPost_ret (results_cell_row rfl _ _ gb11 73 #[.int .i64 (-1), .int .i64 2] (0, 0) _ rfl (by (with_reducible repeat (first | refine blk_drewN ?_ _ | refine blk_drew ?_ | refine blk_alloc ?_ _)); refine blk_put (cs := #[.int .i64 (-1), .int .i64 0]) ?_ 1 _ rfl; (with_reducible repeat (first | refine blk_drewN ?_ _ | refine blk_drew ?_ | refine blk_alloc ?_ _)); refine blk_put (cs := #[.int .i64 0, .int .i64 0]) ?_ 0 _ rfl; (with_reducible repeat (first | refine blk_drewN ?_ _ | refine blk_drew ?_ | refine blk_alloc ?_ _)); exact BK11.out) Try.underlying73 rfl (by kernel_rfl)) rfl ?_
  exact ⟨by rfl, by repeat ((with_reducible first | exact HB.out | refine below_set ?_ GE11.out))⟩
 ·rw [if_neg c2] at H
  have c2b0 : (a0 == (-1)) = false := beq_eq_false_iff_ne.mpr c2
  have c2b1 : (a0 != (-1)) = true := bne_iff_ne.mpr c2
  simp only [Option.some.injEq, Prod.mk.injEq] at H
  obtain ⟨rfl, rfl⟩ := H
  go_enter Try.func89, Try.ntmps89
  go_wp2_with (((with_reducible refine gate_dst (N := 2) rfl ?_); refine box_event ?hg (N := 2) ?hd (cs := #[.int .i64 0, .int .i64 0]) (t := 73) ?hr ?_; (case hd => rfl); (case hg => rfl); (case hr => first | (go_simp; done) ); intro gb11 hg w5 hbox hb; have BK11 := Aside0.mk (hbox); have GW11 := Aside0.mk ((by rw [hg]; exact (below_size (by repeat ((with_reducible first | exact HB.out )))) : w.heap.size ≤ gb11)); have GE11 := Aside0.mk ((by rw [hg]; exact (below_size (by repeat ((with_reducible first | exact HB.out )))) : w.heap.size ≤ gb11)); replace HB := Aside0.mk (below_step (by repeat ((with_reducible first | exact HB.out ))) hb); clear hb hbox hg; obtain ⟨hcz6_0, hcz6_1, hfz6_0, hfz6_1⟩ := bk2 BK11.out))
  refine bodyPost_ret (results_cell_row rfl _ _ gb11 73 #[.int .i64 a0, .int .i64 0] (0, 0) _ rfl (by (with_reducible repeat (first | refine blk_drewN ?_ _ | refine blk_drew ?_ | refine blk_alloc ?_ _)); refine blk_put (cs := #[.int .i64 a0, .int .i64 0]) ?_ 1 _ rfl; (with_reducible repeat (first | refine blk_drewN ?_ _ | refine blk_drew ?_ | refine blk_alloc ?_ _)); refine blk_put (cs := #[.int .i64 0, .int .i64 0]) ?_ 0 _ rfl; (with_reducible repeat (first | refine blk_drewN ?_ _ | refine blk_drew ?_ | refine blk_alloc ?_ _)); exact BK11.out) Try.underlying73 rfl (by kernel_rfl)) rfl ?_
  exact ⟨by rfl, by repeat ((with_reducible first | exact HB.out | refine below_set ?_ GE11.out))⟩
end Go.Proofs.Ytkidnomkfdnciaa.All
