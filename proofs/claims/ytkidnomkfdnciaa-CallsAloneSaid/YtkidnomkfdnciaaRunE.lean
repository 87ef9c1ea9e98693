/- The search among the lists, and Run where there are too many. -/
import Derived.Test.YtkidnomkfdnciaaAllx26
import Derived.Test.YtkidnomkfdnciaaMv
import Derived.RegionTactic
import Derived.ChangeAlike
import Derived.Lib.Hide
import Derived.Deep.RegionLaw
namespace Go.Proofs.Ytkidnomkfdnciaa.All
open Go.RowKit Go.Proofs.YtkidnomkfdnciaaW.PrintWords Go.Proofs.YtkidnomkfdnciaaW.PrintLast Go.Proofs.YtkidnomkfdnciaaW.PrintMore
set_option linter.unusedVariables false
set_option linter.unusedSimpArgs false
def manyB (x : List S76) : Bool := decide (x.length > 50)
set_option maxHeartbeats 4000000 in
set_option maxRecDepth 100000 in
theorem many_calls (W : World) (A : Option Addr) (c : Nat) (x : List S76) (hr : k76.C W A x.length x) :
    Calls Try.prog 84 #[.slice A x.length c] W fun e w' => e = .returned (.bool (manyB x)) ∧ Below W.heap.size W w' := by
  have hmax := hr.2.1
  unfold manyB
  obtain ⟨v, hv⟩ : ∃ v, v = decide (x.length > 50) := ⟨_, rfl⟩
  have HV : decide ((50 : Int) < (x.length : Int)) = v := by rw [hv]; exact decide_eq_decide.2 (by omega)
  rw [← hv]
  clear hr hv
  go_enter Try.func84, Try.ntmps84
  go_wp2
  go_ret
  exact ⟨by first | rfl | rw [HV], Below.refl _ _⟩
set_option maxHeartbeats 8000000 in
set_option maxRecDepth 100000 in
theorem many_index {A : Option Addr} {c : Nat} {l : List (List S76)} {fn : Value} (w : World) (hr : Kd.C (Kd.slice 76 k76) w A l.length l) (hc : l.length ≤ c) (hfn : fn = .func (.func 84) #[] #[]) :
    Calls Try.prog 99 #[.slice A l.length c, fn] w fun e w' => e = .returned (.int .i64 (fidxN [] manyB l l.length 0)) ∧ Below w.heap.size w w' := by
  subst hfn
  have hmax := hr.2.1
  have HR := Aside0.mk hr
  obtain ⟨v, hv⟩ : ∃ v, v = fidxN [] manyB l l.length 0 := ⟨_, rfl⟩
  rw [← hv]
  have HV := Aside0.mk hv.symm
  clear hr hc hv
  go_enter Try.func99, Try.ntmps99
  go_wp2
  go_loopw [8] (fun i wr => ∃ k : Nat, k ≤ l.length ∧ i = .int .i64 k ∧ Aside0 (fidxN [] manyB l (l.length - k) k = v) ∧ Aside0 (Below w.heap.size w wr)) (fun i _ => l.length - (intOf i).toNat)
  case atStart => exact ⟨0, Nat.zero_le _, rfl, ⟨HV.out⟩, ⟨Below.refl _ _⟩⟩
  case round =>
    obtain ⟨k, hk, rfl, HI, HB⟩ := hrel
    by_cases hlt : k < l.length
    · obtain ⟨ad, A1, c1, rfl, hcell, hl1, hi1⟩ := at_L5 (Kd.C_below HR.out HB.out) (k : Int) (by omega) (by omega)
      obtain ⟨x, hx⟩ : ∃ x, x = l.getD k [] := ⟨_, rfl⟩
      have hstep : fidxN [] manyB l (l.length - k) k = if manyB x = true then (k : Int) else fidxN [] manyB l (l.length - (k + 1)) (k + 1) := by
        rw [show l.length - k = (l.length - (k + 1)) + 1 by omega, fidxN, ← hx]
      rw [Int.toNat_natCast, show rd_L5 l (k : Int) = x from by rw [hx]; simp [rd_L5]] at hcell
      rw [show rd_L5 l (k : Int) = x from by rw [hx]; simp [rd_L5]] at hi1
      have HCF := Aside0.mk (many_calls wr A1 c1 x hi1)
      rw [HI.out] at hstep
      clear hl1 hi1
      cases hfx : manyB x with
      | true =>
        rw [hfx] at hstep HCF
        rw [if_pos rfl] at hstep
        have HS := Aside0.mk hstep
        clear hstep hfx hx
        go_wp2_with (go_at_call 84; refine HCF.out.mono ?_; rintro e w1 ⟨rfl, hb1⟩; have HB1 := Aside0.mk (below_then HB.out HB.out.size hb1); clear hb1)
        go_ret
        exact ⟨by rw [HS.out]; rfl, HB1.out⟩
      | false =>
        rw [hfx] at hstep HCF
        rw [if_neg (by decide)] at hstep
        have HS := Aside0.mk hstep
        clear hstep hfx hx
        go_wp2_with (go_at_call 84; refine HCF.out.mono ?_; rintro e w1 ⟨rfl, hb1⟩; have HB1 := Aside0.mk (below_then HB.out HB.out.size hb1); clear hb1)
        go_roundw
        case rel => exact ⟨k + 1, by omega, by go_num, ⟨HS.out.symm⟩, HB1⟩
        case measure => simp [intOf]; omega
    · obtain rfl : k = l.length := by omega
      have HE := Aside0.mk (show v = -1 from by rw [← HI.out, Nat.sub_self]; rfl)
      go_wp2
      go_ret
      exact ⟨by rw [HE.out]; rfl, HB.out⟩
set_option maxHeartbeats 4000000 in
set_option maxRecDepth 100000 in
theorem many_contains {A : Option Addr} {c : Nat} {l : List (List S76)} {fn : Value} (w : World) (hr : Kd.C (Kd.slice 76 k76) w A l.length l) (hc : l.length ≤ c) (hfn : fn = .func (.func 84) #[] #[]) :
    Calls Try.prog 85 #[.slice A l.length c, fn] w fun e w' => e = .returned (.bool (l.any manyB)) ∧ Below w.heap.size w w' := by
  have HI := Aside0.mk (many_index w hr hc hfn)
  obtain ⟨v, hv⟩ : ∃ v, v = fidxN [] manyB l l.length 0 := ⟨_, rfl⟩
  obtain ⟨r, hrr⟩ : ∃ r, r = l.any manyB := ⟨_, rfl⟩
  have he : decide (0 ≤ v) = r := by rw [hv, hrr]; exact fidx_any _ manyB l
  rw [← hv] at HI
  rw [← hrr]
  clear hr hc hv hrr hfn
  go_enter Try.func85, Try.ntmps85
  go_wp2_with (go_at_call 99; refine HI.out.mono ?_; rintro e w1 ⟨rfl, hb1⟩; have HB1 := Aside0.mk hb1; clear hb1)
  go_ret
  exact ⟨by first | rfl | rw [he], HB1.out⟩
theorem cown_some (N : List S48) (G P : List Int) (k : Nat) (h : lim3 N G P = true) : calls_own.f k N G P = some (N, G, P) := by
  unfold lim3 at h
  simp only [Bool.and_eq_true] at h
  unfold calls_own.f api_Node_94.f slices_Clone_int_int.f
  rw [if_pos h.1, if_pos h.2.1, if_pos h.2.2]
  rfl
theorem cown_calls {w : World} {AN AG AP : Option Addr} {cN cG cP : Nat} {N : List S48} {G P : List Int} (h : MemoAt w AN cN N AG cG G AP cP P) (hl : lim3 N G P = true) :
    Calls Try.prog 86 #[.agg #[.slice AN N.length cN, .slice AG G.length cG, .slice AP P.length cP]] w fun e w' => ∃ v0_ v1_ v2_ : Value, e = .returned (.agg #[v0_, v1_, v2_]) ∧ Kd.R k48 48 w' w.heap.size (fun _ => True) v0_ N ∧ Kd.R (Kd.int .i64) 3 w' w.heap.size (fun k_ => some k_ ≠ (v2_ : Value).ownBlock) v1_ G ∧ Kd.R (Kd.int .i64) 3 w' w.heap.size (fun k_ => some k_ ≠ (v1_ : Value).ownBlock) v2_ P ∧ Below w.heap.size w w' :=
  calls_own.calls 0 AN cN N AG cG G AP cP P _ _ _ w h.n h.nc h.g h.gc h.p h.pc (cown_some N G P 0 hl)
set_option maxHeartbeats 16000000 in
set_option maxRecDepth 100000 in
theorem Run_no {w : World} {AN AG AP : Option Addr} {cN cG cP : Nat} {N : List S48} {G P : List Int} {A1 A2 : Option Addr} {c1 c2 : Nat} {l : List (List S76)} {s : List Int} (h : MemoAt w AN cN N AG cG G AP cP P) (hL : Kd.C (Kd.slice 76 k76) w A1 l.length l) (hc : l.length ≤ c1) (hl : lim3 N G P = true) (hno : 64 < l.length ∨ (¬ 64 < l.length ∧ l.any manyB = true)) :
    Calls Try.prog 59 #[.agg #[.slice AN N.length cN, .slice AG G.length cG, .slice AP P.length cP], .slice A1 l.length c1, .slice A2 s.length c2] w fun e w' => ∃ v0_ v1_ v2_ : Value, e = .returned (.tuple #[.agg #[v0_, v1_, v2_], .slice none 0 0, .slice none 0 0]) ∧ Kd.R k48 48 w' w.heap.size (fun _ => True) v0_ N ∧ Kd.R (Kd.int .i64) 3 w' w.heap.size (fun k_ => some k_ ≠ (v2_ : Value).ownBlock) v1_ G ∧ Kd.R (Kd.int .i64) 3 w' w.heap.size (fun k_ => some k_ ≠ (v1_ : Value).ownBlock) v2_ P ∧ Below w.heap.size w w' := by
  obtain ⟨hb, hn, hbb⟩ := res_new w AN cN N AG cG G AP cP P
  obtain ⟨hd0, hd1, hd2⟩ := hb.cells
  have HBX := Aside0.mk hb
  have HNX := Aside0.mk hn
  have HM := Aside0.mk (h.below hbb)
  have HBB := Aside0.mk hbb
  have hmax := hL.2.1
  have HC := Aside0.mk (many_contains _ (Kd.C_below hL hbb) hc rfl)
  have HO := Aside0.mk (fun (W : World) (h : MemoAt W AN cN N AG cG G AP cP P) => cown_calls h hl)
  clear h hb hn hbb hl hL hc
  have fin : ∀ {W w4 : World} {B0 B1 B2 : Option Addr} {d0 d1 d2 : Nat}, Aside0 (Below ((w.alloc (.cells #[.slice AN N.length cN, .slice AG G.length cG, .slice AP P.length cP] 38)).alloc (.cells #[.slice none 0 0, .slice none 0 0, .slice none 0 0] 38)).heap.size ((w.alloc (.cells #[.slice AN N.length cN, .slice AG G.length cG, .slice AP P.length cP] 38)).alloc (.cells #[.slice none 0 0, .slice none 0 0, .slice none 0 0] 38)) W) → Aside0 (Below W.heap.size W w4) → Aside0 (Kd.R k48 48 w4 W.heap.size (fun _ => True) (.slice B0 N.length d0) N) → Aside0 (Kd.R (Kd.int .i64) 3 w4 W.heap.size (fun k_ => some k_ ≠ (Value.slice B2 P.length d2).ownBlock) (.slice B1 G.length d1) G) → Aside0 (Kd.R (Kd.int .i64) 3 w4 W.heap.size (fun k_ => some k_ ≠ (Value.slice B1 G.length d1).ownBlock) (.slice B2 P.length d2) P) → Kd.R k48 48 (((w4.setCell ⟨w.heap.size + 1, 0, none⟩ (.slice B0 N.length d0)).setCell ⟨w.heap.size + 1, 1, none⟩ (.slice B1 G.length d1)).setCell ⟨w.heap.size + 1, 2, none⟩ (.slice B2 P.length d2)) w.heap.size (fun _ => True) (.slice B0 N.length d0) N ∧ Kd.R (Kd.int .i64) 3 (((w4.setCell ⟨w.heap.size + 1, 0, none⟩ (.slice B0 N.length d0)).setCell ⟨w.heap.size + 1, 1, none⟩ (.slice B1 G.length d1)).setCell ⟨w.heap.size + 1, 2, none⟩ (.slice B2 P.length d2)) w.heap.size (fun k => some k ≠ (Value.slice B2 P.length d2).ownBlock) (.slice B1 G.length d1) G ∧ Kd.R (Kd.int .i64) 3 (((w4.setCell ⟨w.heap.size + 1, 0, none⟩ (.slice B0 N.length d0)).setCell ⟨w.heap.size + 1, 1, none⟩ (.slice B1 G.length d1)).setCell ⟨w.heap.size + 1, 2, none⟩ (.slice B2 P.length d2)) w.heap.size (fun k => some k ≠ (Value.slice B1 G.length d1).ownBlock) (.slice B2 P.length d2) P ∧ Below w.heap.size w (((w4.setCell ⟨w.heap.size + 1, 0, none⟩ (.slice B0 N.length d0)).setCell ⟨w.heap.size + 1, 1, none⟩ (.slice B1 G.length d1)).setCell ⟨w.heap.size + 1, 2, none⟩ (.slice B2 P.length d2)) := by
    intro W w4 B0 B1 B2 d0 d1 d2 HB1 HB4 HR0 HR1 HR2
    have hW : w.heap.size ≤ W.heap.size := by have := HB1.out.size; have := HBB.out.size; omega
    exact res_put (w := w) ((HB4.out.block _ (blk_lt ((HB1.out.block _ (blk_lt HNX.out)).trans HNX.out))).trans ((HB1.out.block _ (blk_lt HNX.out)).trans HNX.out)) (by omega) (below_then HBB.out HBB.out.size (HB1.out.trans (HB4.out.mono HB1.out.size))) (Kd.R_lower HR0.out hW) (Kd.R_lower HR1.out hW) (Kd.R_lower HR2.out hW)
  have HF := Aside0.mk @fin
  clear fin
  rcases hno with hlt | ⟨hlt, hany⟩
  · have d1 : decide ((64 : Int) < (l.length : Int)) = true := decide_eq_true (by omega)
    have HB1 := Aside0.mk (Below.refl ((w.alloc (.cells #[.slice AN N.length cN, .slice AG G.length cG, .slice AP P.length cP] 38)).alloc (.cells #[.slice none 0 0, .slice none 0 0, .slice none 0 0] 38)).heap.size ((w.alloc (.cells #[.slice AN N.length cN, .slice AG G.length cG, .slice AP P.length cP] 38)).alloc (.cells #[.slice none 0 0, .slice none 0 0, .slice none 0 0] 38)))
    clear hlt
    go_enter Try.func59, Try.ntmps59
    go_wp2_with (first | (go_at_call 86; (refine (HO.out _ (HM.out.below HB1.out)).mono ?_; rintro e w4 ⟨v0, v1, v2, rfl, hr0, hr1, hr2, hb4⟩; obtain ⟨B0, d0, e0⟩ := Kd.R_slice hr0; obtain ⟨B1, d1, e1⟩ := Kd.R_slice hr1; obtain ⟨B2, d2, e2⟩ := Kd.R_slice hr2; subst e0 e1 e2; have HR0 := Aside0.mk hr0; have HR1 := Aside0.mk hr1; have HR2 := Aside0.mk hr2; have HB4 := Aside0.mk hb4; have h6 := (((HB1.out.trans (hb4.mono HB1.out.size)).block _ (blk_lt HNX.out)).trans HNX.out); have H6 := Aside0.mk h6; have hx0 : w4.cell? ⟨w.heap.size + 1, 0, none⟩ = some (.slice none 0 0) := (blk_cell h6 0).trans rfl; have hx1 : w4.cell? ⟨w.heap.size + 1, 1, none⟩ = some (.slice none 0 0) := (blk_cell h6 1).trans rfl; have hx2 : w4.cell? ⟨w.heap.size + 1, 2, none⟩ = some (.slice none 0 0) := (blk_cell h6 2).trans rfl; have hy0 := blk_frozen h6 0; have hy1 := blk_frozen h6 1; have hy2 := blk_frozen h6 2; clear hr0 hr1 hr2 hb4 h6)))
    have hR := HF.out HB1 HB4 HR0 HR1 HR2
    refine bodyPost_ret (v := .tuple #[.agg #[.slice B0 N.length d0, .slice B1 G.length d1, .slice B2 P.length d2], .slice none 0 0, .slice none 0 0]) (by simp [results, Try.results59, go_sem, hx0, hx1, hx2]) rfl ⟨_, _, _, rfl, hR⟩
  · have d1 : decide ((64 : Int) < (l.length : Int)) = false := decide_eq_false (by omega)
    clear hlt
    rw [hany] at HC
    go_enter Try.func59, Try.ntmps59
    go_wp2_with (first | (go_at_call 85; refine HC.out.mono ?_; rintro e w1 ⟨rfl, hb1⟩; have HB1 := Aside0.mk hb1; obtain ⟨ha0, ha1, ha2⟩ := (HBX.out.below hb1).cells; clear hb1) | (go_at_call 86; (refine (HO.out _ (HM.out.below HB1.out)).mono ?_; rintro e w4 ⟨v0, v1, v2, rfl, hr0, hr1, hr2, hb4⟩; obtain ⟨B0, d0, e0⟩ := Kd.R_slice hr0; obtain ⟨B1, d1, e1⟩ := Kd.R_slice hr1; obtain ⟨B2, d2, e2⟩ := Kd.R_slice hr2; subst e0 e1 e2; have HR0 := Aside0.mk hr0; have HR1 := Aside0.mk hr1; have HR2 := Aside0.mk hr2; have HB4 := Aside0.mk hb4; have h6 := (((HB1.out.trans (hb4.mono HB1.out.size)).block _ (blk_lt HNX.out)).trans HNX.out); have H6 := Aside0.mk h6; have hx0 : w4.cell? ⟨w.heap.size + 1, 0, none⟩ = some (.slice none 0 0) := (blk_cell h6 0).trans rfl; have hx1 : w4.cell? ⟨w.heap.size + 1, 1, none⟩ = some (.slice none 0 0) := (blk_cell h6 1).trans rfl; have hx2 : w4.cell? ⟨w.heap.size + 1, 2, none⟩ = some (.slice none 0 0) := (blk_cell h6 2).trans rfl; have hy0 := blk_frozen h6 0; have hy1 := blk_frozen h6 1; have hy2 := blk_frozen h6 2; clear hr0 hr1 hr2 hb4 h6)))
    have hR := HF.out HB1 HB4 HR0 HR1 HR2
    refine bodyPost_ret (v := .tuple #[.agg #[.slice B0 N.length d0, .slice B1 G.length d1, .slice B2 P.length d2], .slice none 0 0, .slice none 0 0]) (by simp [results, Try.results59, go_sem, hx0, hx1, hx2]) rfl ⟨_, _, _, rfl, hR⟩
end Go.Proofs.Ytkidnomkfdnciaa.All
