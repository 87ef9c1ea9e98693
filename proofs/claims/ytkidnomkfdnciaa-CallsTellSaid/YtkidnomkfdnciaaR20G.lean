/- The law on all calls and the document's: its walk. -/
import Derived.Test.YtkidnomkfdnciaaR20F
import Derived.Test.YtkidnomkfdnciaaR20D
import Derived.Test.YtkidnomkfdnciaaQCall
namespace Go.Proofs.Ytkidnomkfdnciaa.All
open Go.RowKit Go.Proofs.Ytkidnomkfdnciaa.Pure Go.Proofs.YtkidnomkfdnciaaW.PrintWords Go.Proofs.YtkidnomkfdnciaaW.PrintLast Go.Proofs.YtkidnomkfdnciaaW.PrintMore
set_option linter.unusedVariables false
set_option linter.unusedSimpArgs false
attribute [local go_sem high] eqA73
section
variable {w W W' : World} {AN AG AP A1 A2 : Option Addr} {cN cG cP c1 c2 : Nat} {N : List S48} {G P : List Int} {L : List (List S76)} {sc : List Int} {c : S76}
def CBox (W : World) (b : Nat) (c : S76) : Prop := W.heap[b]? = some (.cells #[.int .i64 c.f0, .bool c.f1.f0, .int .i64 c.f1.f1, .int .i64 c.f1.f2, .int .i64 c.f1.f3, .int .i64 c.f2, .int .i64 c.f3] 76 (0, 0))
structure LBox (w W : World) (AN : Option Addr) (cN : Nat) (N : List S48) (AG : Option Addr) (cG : Nat) (G : List Int) (AP : Option Addr) (cP : Nat) (P : List Int) (c : S76) (A1 : Option Addr) (c1 : Nat) (L : List (List S76)) (A2 : Option Addr) (c2 : Nat) (sc : List Int) : Prop where
 bel : Below w.heap.size w W
 bm : MBox W w.heap.size AN cN N AG cG G AP cP P
 bc : CBox W (w.heap.size + 1) c
 mm : MemoAt W AN cN N AG cG G AP cP P
 l : Kd.C (Kd.slice 76 k76) W A1 L.length L ∧ L.length ≤ c1
 s : Kd.C (Kd.int .i64) W A2 sc.length sc ∧ sc.length ≤ c2
theorem LBox.below (h : LBox w W AN cN N AG cG G AP cP P c A1 c1 L A2 c2 sc) (hb : Below W.heap.size W W') : LBox w W' AN cN N AG cG G AP cP P c A1 c1 L A2 c2 sc :=
 ⟨below_then h.bel h.bel.size hb, h.bm.below hb, blk_below h.bc hb, h.mm.below hb, ⟨Kd.C_below h.l.1 hb, h.l.2⟩, ⟨Kd.C_below h.s.1 hb, h.s.2⟩⟩
theorem LBox.new (h : MemoAt w AN cN N AG cG G AP cP P) (hl : Kd.C (Kd.slice 76 k76) w A1 L.length L ∧ L.length ≤ c1) (hs : Kd.C (Kd.int .i64) w A2 sc.length sc ∧ sc.length ≤ c2) (c : S76) :
  LBox w ((w.alloc (.cells #[.slice AN N.length cN, .slice AG G.length cG, .slice AP P.length cP] 38)).alloc (.cells #[.int .i64 c.f0, .bool c.f1.f0, .int .i64 c.f1.f1, .int .i64 c.f1.f2, .int .i64 c.f1.f3, .int .i64 c.f2, .int .i64 c.f3] 76)) AN cN N AG cG G AP cP P c A1 c1 L A2 c2 sc := by
 have h1 := box_new w AN cN N AG cG G AP cP P
 have b1 := below_alloc (Below.refl w.heap.size w) (.cells #[.slice AN N.length cN, .slice AG G.length cG, .slice AP P.length cP] 38)
 have b2 := below_alloc (Below.refl _ (w.alloc (.cells #[.slice AN N.length cN, .slice AG G.length cG, .slice AP P.length cP] 38))) (.cells #[.int .i64 c.f0, .bool c.f1.f0, .int .i64 c.f1.f1, .int .i64 c.f1.f2, .int .i64 c.f1.f3, .int .i64 c.f2, .int .i64 c.f3] 76)
 have hn := heap_alloc_new (w.alloc (.cells #[.slice AN N.length cN, .slice AG G.length cG, .slice AP P.length cP] 38)) (.cells #[.int .i64 c.f0, .bool c.f1.f0, .int .i64 c.f1.f1, .int .i64 c.f1.f2, .int .i64 c.f1.f3, .int .i64 c.f2, .int .i64 c.f3] 76)
 rw [alloc_size1] at hn
 have b := below_then b1 b1.size b2
 exact ⟨b, h1.below b2, hn, h.below b, ⟨Kd.C_below hl.1 b, hl.2⟩, ⟨Kd.C_below hs.1 b, hs.2⟩⟩
theorem few_calls {b : Bool} (h : LBox w W AN cN N AG cG G AP cP P c A1 c1 L A2 c2 sc) (hb : ∀ k, 20 ≤ k → roadbooklaw20_few.f k L sc = some b) :
  Calls Try.prog 57 #[.slice A1 L.length c1, .slice A2 sc.length c2] W fun e w' => e = .returned (.bool b) ∧ Below W.heap.size W w' :=
 (roadbooklaw20_few.calls 20 _ _ _ _ _ _ _ _ h.l.1 h.l.2 h.s.1 h.s.2 (hb 20 (Nat.le_refl _))).mono fun e w' ⟨he, hd⟩ => ⟨he, hd.below⟩
set_option maxHeartbeats 8000000 in
set_option maxRecDepth 100000 in
theorem CTell_no {b : Bool} {f : Int} (h : MemoAt w AN cN N AG cG G AP cP P) (hl : Kd.C (Kd.slice 76 k76) w A1 L.length L ∧ L.length ≤ c1) (hs : Kd.C (Kd.int .i64) w A2 sc.length sc ∧ sc.length ≤ c2) (hb : ∀ k, 20 ≤ k → roadbooklaw20_few.f k L sc = some b) (hf : roadbooklaw16_Far.f N G P 20 = some f) (hno : b = false ∨ b = true ∧ f = 1) :
  Calls Try.prog 21 #[.agg #[.slice AN N.length cN, .slice AG G.length cG, .slice AP P.length cP], .agg #[.int .i64 c.f0, .bool c.f1.f0, .int .i64 c.f1.f1, .int .i64 c.f1.f2, .int .i64 c.f1.f3, .int .i64 c.f2, .int .i64 c.f3], .slice A1 L.length c1, .slice A2 sc.length c2] w fun e w' => e = .returned (.bool true) ∧ Below w.heap.size w w' := by
 have HT := Aside0.mk (LBox.new h hl hs c)
 have HU := Aside0.mk (fun W => roadbooklaw20_awake.calls 0 true W rfl)
 have HF := Aside0.mk (fun (W : World) (h : LBox w W AN cN N AG cG G AP cP P c A1 c1 L A2 c2 sc) => few_calls h hb)
 have HR := Aside0.mk (fun (W : World) (h : LBox w W AN cN N AG cG G AP cP P c A1 c1 L A2 c2 sc) => Far_at h.mm hf)
 clear h hl hs hb hf
 rcases hno with rfl | ⟨rfl, rfl⟩
 all_goals
  go_enter Try.func21, Try.ntmps21
  go_wp2_with (first | (go_at_call 56; refine (HU.out _).mono ?_; rintro e w1 ⟨rfl, hb⟩; have HT1 := Aside0.mk (HT.out.below hb); clear hb) | (go_at_call 57; refine (HF.out _ HT1.out).mono ?_; rintro e w2 ⟨rfl, hb⟩; have HT2 := Aside0.mk (HT1.out.below hb); obtain ⟨ha0, ha1, ha2⟩ := HT2.out.bm.cells; clear hb) | (go_at_call 58; refine (HR.out _ HT2.out).mono ?_; rintro e w3 ⟨rfl, hb⟩; have HT3 := Aside0.mk (HT2.out.below hb); clear hb))
  go_ret
  first | exact ⟨rfl, HT3.out.bel⟩ | exact ⟨rfl, HT2.out.bel⟩
theorem all_lim : ∀ (l : List S76) {N : List S48} {G P : List Int}, Lim N G P → Lim (allT N G P l).1 (allT N G P l).2.1 (allT N G P l).2.2.1
 | [], _, _, _, h => h
 | c :: t, _, _, _, h => all_lim t (do_lim h c)
theorem ended_le {s : St} (g : Pure.Good L s) (hS : Small L) : ∀ i, i < (s.ones.map One.ended).length → ((s.ones.map One.ended).getD i []).length < 1000 := fun i hi => by
 have hi : i < L.length := by rw [List.length_map, g.len] at hi; exact hi
 have := g.il hi
 have e : (s.ones.map One.ended).getD i [] = (nth s i).ended := by
  unfold nth
  simp [List.getD_eq_getElem?_getD, List.getElem?_map, List.getElem?_eq_getElem this]
 rw [e, g.ended i hi]
 have a := g.at_ i hi
 have b := hS.2 i hi
 omega
set_option maxHeartbeats 32000000 in
set_option maxRecDepth 100000 in
theorem CTell_main {s : St} {D1 : List S48} {D2 D3 : List Int} {d4 d5 : Int} {E1 : List S48} {E2 E3 : List Int} {l0 : List S76} {bk : List S73} {od : List S68} {Bs : List (List S73)} (h : MemoAt w AN cN N AG cG G AP cP P) (hl : Kd.C (Kd.slice 76 k76) w A1 L.length L ∧ L.length ≤ c1) (hs : Kd.C (Kd.int .i64) w A2 sc.length sc ∧ sc.length ≤ c2) (hb : ∀ k, 20 ≤ k → roadbooklaw20_few.f k L sc = some true) (hf : roadbooklaw16_Far.f N G P 20 = some 0)
  (hL : Lim N G P) (hS : Small L) (h2 : sc.length ≤ 200) (he : s = rds L.length sc (sc.length + tot L) 0 (Pure.start N G P L)) (hD : (D1, D2, D3, d4, d5) = doT N G P c) (hE : (E1, E2, E3, bk) = allT N G P l0) (hg : Pure.Good L s) (hBs : Bs = s.ones.map One.ended) (hod : od = s.ev.filter fun x => decide (x.f2 = 1)) (hl0 : l0.length ≤ 12)
  (hcase : (∃ ad, A1 = some ad ∧ 0 < L.length ∧ ∀ W, LBox w W AN cN N AG cG G AP cP P c A1 c1 L A2 c2 sc → ∃ A3 c3, W.cell? ad = some (.slice A3 l0.length c3) ∧ W.cell? (ad.add 0) = some (.slice A3 l0.length c3) ∧ k76.C W A3 l0.length l0 ∧ l0.length ≤ c3) ∨ (L.length = 0 ∧ l0 = [])) :
  Calls Try.prog 21 #[.agg #[.slice AN N.length cN, .slice AG G.length cG, .slice AP P.length cP], .agg #[.int .i64 c.f0, .bool c.f1.f0, .int .i64 c.f1.f1, .int .i64 c.f1.f2, .int .i64 c.f1.f3, .int .i64 c.f2, .int .i64 c.f3], .slice A1 L.length c1, .slice A2 sc.length c2] w fun e w' => e = .returned (.bool true) ∧ Below w.heap.size w w' := by
 have HT := Aside0.mk (LBox.new h hl hs c)
 have HU := Aside0.mk (fun W => roadbooklaw20_awake.calls 0 true W rfl)
 have HF := Aside0.mk (fun (W : World) (h : LBox w W AN cN N AG cG G AP cP P c A1 c1 L A2 c2 sc) => few_calls h hb)
 have HR := Aside0.mk (fun (W : World) (h : LBox w W AN cN N AG cG G AP cP P c A1 c1 L A2 c2 sc) => Far_at h.mm hf)
 have HDo := Aside0.mk (fun (W : World) (h : LBox w W AN cN N AG cG G AP cP P c A1 c1 L A2 c2 sc) => Do_at c hL h.mm hD)
 have HrDo := Aside0.mk (fun (W : World) (h : LBox w W AN cN N AG cG G AP cP P c A1 c1 L A2 c2 sc) => rDo_at c h.mm hD)
 have HRun := Aside0.mk (fun (W : World) (h : LBox w W AN cN N AG cG G AP cP P c A1 c1 L A2 c2 sc) => Run_at (k := 500) (B := Bs) h.mm h.l.1 h.l.2 h.s.1 h.s.2 (by rw [hBs]; exact run_rds hL hS sc (Nat.le_refl _) he))
 have HrRun := Aside0.mk (fun (W : World) (h : LBox w W AN cN N AG cG G AP cP P c A1 c1 L A2 c2 sc) => (rrun_at h.mm h.l.1 h.l.2 h.s.1 h.s.2 hL hS h2 he).mono fun e w' ⟨A0, c0, A1, c1, A2, c2, A3, c3, A4, c4, he, hm, hB, hE, hb⟩ => (⟨A0, c0, A1, c1, A2, c2, A3, c3, A4, c4, by rw [hBs, List.length_map, hg.len]; exact he, hm, by rw [hBs, List.length_map, hg.len]; exact hB, hE, hb⟩ : ∃ A0 c0 A1 c1 A2 c2 A3 c3 A4 c4, e = Ending.returned (.tuple #[.agg #[.slice A0 s.N.length c0, .slice A1 s.G.length c1, .slice A2 s.P.length c2], .slice A3 Bs.length c3, .slice A4 s.ev.length c4]) ∧ MemoAt w' A0 c0 s.N A1 c1 s.G A2 c2 s.P ∧ (Kd.C (Kd.slice 73 k73) w' A3 Bs.length Bs ∧ Bs.length ≤ c3) ∧ (Kd.C k68 w' A4 s.ev.length s.ev ∧ s.ev.length ≤ c4) ∧ Below W.heap.size W w'))
 have HLD := Aside0.mk (show Lim D1 D2 D3 by have := do_lim hL c; rw [← hD] at this; exact this)
 have HLs := Aside0.mk hg.lim
 have HLE := Aside0.mk (show Lim E1 E2 E3 by have := all_lim l0 hL; rw [← hE] at this; exact this)
 have hevl := hg.ev_le hS
 have HLi := Aside0.mk (fun (W : World) (A B : Option Addr) (c d : Nat) (h : Kd.C (Kd.slice 73 k73) W A Bs.length Bs ∧ Bs.length ≤ c) (h' : Kd.C (Kd.slice 73 k73) W B Bs.length Bs ∧ Bs.length ≤ d) => Lists_at h h' (by rw [hBs, List.length_map, hg.len]; have := hS.1; omega) (by rw [hBs]; exact ended_le hg hS))
 have HEve := Aside0.mk (fun (W : World) (a : List S68) (A B : Option Addr) (c d : Nat) (h : k68.C W A a.length a ∧ a.length ≤ c) (h' : k68.C W B a.length a ∧ a.length ≤ d) (ha : a.length < 1000) => Events_at h h' ha)
 have HEl := Aside0.mk (show s.ev.length < 1000 by omega)
 have HOl := Aside0.mk (show od.length < 1000 by rw [hod]; have := List.length_filter_le (fun x : S68 => decide (x.f2 = 1)) s.ev; omega)
 have HAll := Aside0.mk (fun (W : World) (A : Option Addr) (c3 : Nat) (h : LBox w W AN cN N AG cG G AP cP P c A1 c1 L A2 c2 sc) (hr : k76.C W A l0.length l0 ∧ l0.length ≤ c3) => all_at hL h.mm hr.1 hr.2 (by omega) hE)
 have HrAll := Aside0.mk (fun (W : World) (A : Option Addr) (c3 : Nat) (h : LBox w W AN cN N AG cG G AP cP P c A1 c1 L A2 c2 sc) (hr : k76.C W A l0.length l0 ∧ l0.length ≤ c3) => rall_at h.mm hr.1 hr.2 (by omega) hE)
 have HBa := Aside0.mk (fun (W : World) (A B : Option Addr) (c d : Nat) (h : k73.C W A bk.length bk ∧ bk.length ≤ c) (h' : k73.C W B bk.length bk ∧ bk.length ≤ d) => Backs_same h h' (by have := all_len l0 N G P; rw [← hE] at this; dsimp only at this; omega))
 have HOr := Aside0.mk (fun (W : World) (A : Option Addr) (c : Nat) (h : k68.C W A s.ev.length s.ev ∧ s.ev.length ≤ c) => Order_at (b := od) h (by omega) hod)
 have HrOr := Aside0.mk (fun (W : World) (A : Option Addr) (c : Nat) (h : k68.C W A s.ev.length s.ev ∧ s.ev.length ≤ c) => rOrder_at (b := od) h (by omega) hod)
 clear h hl hs hb hf hD he hE hod hL hS h2 hg hl0 hevl hBs
 rcases hcase with ⟨ad, rfl, hlt, hrow⟩ | ⟨hlt, rfl⟩
 all_goals (first
  | (have HRow := Aside0.mk hrow; have hlt' : (0 : Int) < (L.length : Int) := (by omega); have hlt2 : ¬ (L.length : Int) ≤ 0 := (by omega); clear hrow)
  | (have HRow := Aside0.mk (show ∀ W, LBox w W AN cN N AG cG G AP cP P c A1 c1 L A2 c2 sc → ∃ (A3 : Option Addr) (c3 : Nat), (A3 = none ∧ c3 = 0) ∧ True ∧ k76.C W A3 ([] : List S76).length [] ∧ ([] : List S76).length ≤ c3 from fun W _ => ⟨none, 0, ⟨rfl, rfl⟩, trivial, ⟨rfl, Nat.zero_le _, fun h => absurd h (Nat.lt_irrefl 0)⟩, Nat.le_refl 0⟩); have HLT := Aside0.mk hlt; clear hlt))
 all_goals
  go_enter Try.func21, Try.ntmps21
  go_wp2_with (first
   | (go_at_call 66; refine (alike_at (HU5.out).m HW5.out.m HLE.out).mono ?_; rintro e w14 ⟨rfl, hb⟩; have h14 := Aside0.mk hb; have HT14 := Aside0.mk (HT13.out.below hb); clear hb)
   | (go_at_call 66; refine (alike_at (((HZ.out).below h7.out).below h8.out).m ((HV.out).below h8.out).m HLs.out).mono ?_; rintro e w9 ⟨rfl, hb⟩; have h9 := Aside0.mk hb; have HT9 := Aside0.mk (HT8.out.below hb); clear hb)
   | (go_at_call 66; refine (alike_at ((((HX.out).below h5.out).below h6.out).below h7.out).m (((HY.out).below h6.out).below h7.out).m HLD.out).mono ?_; rintro e w8 ⟨rfl, hb⟩; have h8 := Aside0.mk hb; have HT8 := Aside0.mk (HT7.out.below hb); obtain ⟨hm0, hm1, _, _⟩ := bk2 (((((HXb.out).below h5.out).below h6.out).below h7.out).below h8.out).b; obtain ⟨hn0, hn1, _, _⟩ := bk2 ((((HYb.out).below h6.out).below h7.out).below h8.out).b; obtain ⟨ho0, ho1, ho2⟩ := (((HZ.out).below h7.out).below h8.out).b.cells; obtain ⟨hp0, hp1, hp2⟩ := ((HV.out).below h8.out).b.cells; clear hb)
   | (go_at_call 56; refine (HU.out _).mono ?_; rintro e w1 ⟨rfl, hb⟩; have HT1 := Aside0.mk (HT.out.below hb); clear hb)
   | (go_at_call 57; refine (HF.out _ HT1.out).mono ?_; rintro e w2 ⟨rfl, hb⟩; have HT2 := Aside0.mk (HT1.out.below hb); obtain ⟨ha0, ha1, ha2⟩ := HT2.out.bm.cells; clear hb)
   | (go_at_call 58; refine (HR.out _ HT2.out).mono ?_; rintro e w3 ⟨rfl, hb⟩; have HT3 := Aside0.mk (HT2.out.below hb); obtain ⟨hc0, hc1, hc2⟩ := HT3.out.bm.cells; obtain ⟨hd0, hd1, hd2, hd3, hd4, hd5, hd6, _⟩ := bk7 HT3.out.bc; clear hb)
   | (go_at_call 63; refine (HDo.out _ HT3.out).mono ?_; rintro e w4 ⟨B0, b0, B1, b1, B2, b2, rfl, hm, hb⟩; obtain ⟨p1, p2, p3⟩ := pair_new hm hb d4 d5; have HT4 := Aside0.mk (HT3.out.below p3); have HX := Aside0.mk p1; have HXb := Aside0.mk p2; obtain ⟨he0, he1, he2⟩ := HT4.out.bm.cells; obtain ⟨hf0, hf1, hf2, hf3, hf4, hf5, hf6, _⟩ := bk7 HT4.out.bc; clear hb hm p1 p2 p3)
   | (go_at_call 64; refine (HrDo.out _ HT4.out).mono ?_; rintro e w5 ⟨C0, f0, C1, f1, C2, f2, rfl, hm, hb⟩; obtain ⟨p1, p2, p3⟩ := pair_new hm hb d4 d5; have h5 := Aside0.mk p3; have HT5 := Aside0.mk (HT4.out.below p3); have HY := Aside0.mk p1; have HYb := Aside0.mk p2; obtain ⟨hg0, hg1, hg2⟩ := HT5.out.bm.cells; clear hb hm p1 p2 p3)
   | (go_at_call 59; refine (HRun.out _ HT5.out).mono ?_; rintro e w6 ⟨Q0, g0, Q1, g1, Q2, g2, K1, k1, K2, k2, rfl, hm, hB, hE', hb⟩; obtain ⟨p1, p3⟩ := one_new hm hb; have h6 := Aside0.mk p3; have HT6 := Aside0.mk (HT5.out.below p3); have HZ := Aside0.mk p1; have pb := below_alloc (Below.refl w6.heap.size w6) (.cells #[.slice Q0 s.N.length g0, .slice Q1 s.G.length g1, .slice Q2 s.P.length g2] 38); have HB := Aside0.mk (row_below hB pb); have HEv := Aside0.mk (row_below hE' pb); obtain ⟨hi0, hi1, hi2⟩ := HT6.out.bm.cells; clear hb hm hB hE' p1 p3 pb)
   | (go_at_call 65; refine (HrRun.out _ HT6.out).mono ?_; rintro e w7 ⟨R0, m0, R1, m1, R2, m2, K3, k3, K4, k4, rfl, hm, hB, hE', hb⟩; obtain ⟨p1, p3⟩ := one_new hm hb; have h7 := Aside0.mk p3; have HT7 := Aside0.mk (HT6.out.below p3); have HV := Aside0.mk p1; have pb := below_alloc (Below.refl w7.heap.size w7) (.cells #[.slice R0 s.N.length m0, .slice R1 s.G.length m1, .slice R2 s.P.length m2] 38); have HB' := Aside0.mk (row_below hB pb); have HEv' := Aside0.mk (row_below hE' pb); obtain ⟨hj0, hj1, hj2⟩ := ((((HX.out).below h5.out).below h6.out).below h7.out).b.cells; obtain ⟨hk0, hk1, hk2⟩ := (((HY.out).below h6.out).below h7.out).b.cells; clear hb hm hB hE' p1 p3 pb)
   | (go_at_call 67; refine (HLi.out _ _ _ _ _ (row_below (row_below (row_below (HB.out) h7.out) h8.out) h9.out) (row_below (row_below (HB'.out) h8.out) h9.out)).mono ?_; rintro e w10 ⟨rfl, hb⟩; have h10 := Aside0.mk hb; have HT10 := Aside0.mk (HT9.out.below hb); clear hb)
   | (go_at_call 68; refine (HEve.out _ _ _ _ _ _ HO5.out HO6.out HOl.out).mono ?_; rintro e w18 ⟨rfl, hb⟩; have HT18 := Aside0.mk (HT17.out.below hb); clear hb)
   | (go_at_call 68; refine (HEve.out _ _ _ _ _ _ (row_below (row_below (row_below (row_below (HEv.out) h7.out) h8.out) h9.out) h10.out) (row_below (row_below (row_below (HEv'.out) h8.out) h9.out) h10.out) HEl.out).mono ?_; rintro e w11 ⟨rfl, hb⟩; have h11 := Aside0.mk hb; have HT11 := Aside0.mk (HT10.out.below hb); obtain ⟨hq0, hq1, hq2⟩ := HT11.out.bm.cells; obtain ⟨A3, c3, hrow⟩ := HRow.out _ HT11.out; obtain ⟨hr0, hr1, hr2⟩ := hrow; (try (obtain ⟨rfl, rfl⟩ := hr0; have hlt' : ¬ (0 : Int) < (L.length : Int) := (by have := HLT.out; omega))); have HRw := Aside0.mk hr2; clear hb hr2)
   | (go_at_call 61; refine (HAll.out _ _ _ HT11.out HRw.out).mono ?_; rintro e w12 ⟨S0, S0', S1, S1', S2, S2', K5, k5, rfl, hm, hB, hb⟩; obtain ⟨p1, p3⟩ := one_new hm hb; have h12 := Aside0.mk p3; have HT12 := Aside0.mk (HT11.out.below p3); have HU4 := Aside0.mk p1; have HBk := Aside0.mk (row_below hB (below_alloc (Below.refl _ _) (.cells #[.slice S0 E1.length S0', .slice S1 E2.length S1', .slice S2 E3.length S2'] 38))); obtain ⟨hs0, hs1, hs2⟩ := HT12.out.bm.cells; clear hb hm hB p1 p3)
   | (go_at_call 69; refine (HrAll.out _ _ _ HT12.out (row_below HRw.out h12.out)).mono ?_; rintro e w13 ⟨T0, T0', T1, T1', T2, T2', K6, k6, rfl, hm, hB, hb⟩; obtain ⟨p1, p3⟩ := one_new hm hb; have h13 := Aside0.mk p3; have HT13 := Aside0.mk (HT12.out.below p3); have HW5 := Aside0.mk p1; have HBk' := Aside0.mk (row_below hB (below_alloc (Below.refl _ _) (.cells #[.slice T0 E1.length T0', .slice T1 E2.length T1', .slice T2 E3.length T2'] 38))); have HU5 := Aside0.mk (HU4.out.below p3); obtain ⟨ht0, ht1, ht2⟩ := HU5.out.b.cells; obtain ⟨hu0, hu1, hu2⟩ := HW5.out.b.cells; clear hb hm hB p1 p3)
   | (go_at_call 62; refine (HBa.out _ _ _ _ _ (row_below (row_below (HBk.out) h13.out) h14.out) (row_below (HBk'.out) h14.out)).mono ?_; rintro e w15 ⟨rfl, hb⟩; have h15 := Aside0.mk hb; have HT15 := Aside0.mk (HT14.out.below hb); clear hb)
   | (go_at_call 70; refine (HOr.out _ _ _ (row_below (row_below (row_below (row_below (row_below (row_below (row_below (row_below (row_below (HEv.out) h7.out) h8.out) h9.out) h10.out) h11.out) h12.out) h13.out) h14.out) h15.out)).mono ?_; rintro e w16 ⟨K7, k7, rfl, hB, hb⟩; have h16 := Aside0.mk hb; have HT16 := Aside0.mk (HT15.out.below hb); have HO4 := Aside0.mk hB; clear hb hB)
   | (go_at_call 71; refine (HrOr.out _ _ _ (row_below (row_below (row_below (row_below (row_below (row_below (row_below (row_below (row_below (HEv'.out) h8.out) h9.out) h10.out) h11.out) h12.out) h13.out) h14.out) h15.out) h16.out)).mono ?_; rintro e w17 ⟨K8, k8, rfl, hB, hb⟩; have HT17 := Aside0.mk (HT16.out.below hb); have HO5 := Aside0.mk (row_below HO4.out hb); have HO6 := Aside0.mk hB; clear hb hB))
  go_ret
  exact ⟨rfl, HT18.out.bel⟩
theorem ctell_true (h : MemoAt w AN cN N AG cG G AP cP P) (hl : Kd.C (Kd.slice 76 k76) w A1 L.length L ∧ L.length ≤ c1) (hs : Kd.C (Kd.int .i64) w A2 sc.length sc ∧ sc.length ≤ c2) (c : S76) (hL : Lim N G P) :
  Calls Try.prog 21 #[.agg #[.slice AN N.length cN, .slice AG G.length cG, .slice AP P.length cP], .agg #[.int .i64 c.f0, .bool c.f1.f0, .int .i64 c.f1.f1, .int .i64 c.f1.f2, .int .i64 c.f1.f3, .int .i64 c.f2, .int .i64 c.f3], .slice A1 L.length c1, .slice A2 sc.length c2] w fun e w' => e = .returned (.bool true) ∧ Below w.heap.size w w' := by
 obtain ⟨b, hb, hbs⟩ := few20_k L sc
 have hf := Pure.far_k N G P 20
 cases b with
 | false => exact CTell_no h hl hs hb hf (.inl rfl)
 | true =>
  obtain ⟨h2, hS⟩ := hbs rfl
  cases hw : fewB N G P 20 with
  | false => rw [hw] at hf; exact CTell_no h hl hs hb hf (.inr ⟨rfl, rfl⟩)
  | true =>
   rw [hw] at hf
   have hg : Pure.Good L (rds L.length sc (sc.length + tot L) 0 (Pure.start N G P L)) := rds_good sc _ 0 (start_good hL L)
   refine CTell_main (l0 := L.getD 0 []) h hl hs hb hf hL hS h2 rfl rfl rfl hg rfl rfl ?_ ?_
   ·by_cases h0 : 0 < L.length
    ·exact hS.2 0 h0
    ·rw [List.getD_eq_getElem?_getD, List.getElem?_eq_none (by omega)]; exact Nat.zero_le _
   ·by_cases h0 : 0 < L.length
    ·obtain ⟨ad, A3, c3, e, hcell, hle, hC⟩ := at_L5 hl.1 0 (Int.le_refl 0) (by omega)
     have hrd : rd_L5 L 0 = L.getD 0 [] := rfl
     rw [hrd] at hcell hle hC
     refine .inl ⟨ad, e, h0, fun W hW => ⟨A3, c3, ?_, pw_cell_below hW.bel hcell, Kd.C_below hC hW.bel, hle⟩⟩
     exact pw_cell_below hW.bel hcell
    ·refine .inr ⟨by omega, ?_⟩
     rw [List.getD_eq_getElem?_getD, List.getElem?_eq_none (by omega)]; rfl
end
def limC (N : List S48) (G P : List Int) : Bool := decide (N.length * 32 ≤ 140737488351232) && (decide (G.length * 8 ≤ 140737488351232) && decide (P.length * 8 ≤ 140737488351232))
theorem limC_iff {N : List S48} {G P : List Int} : limC N G P = true ↔ Lim N G P := by
 unfold limC
 simp only [Bool.and_eq_true, decide_eq_true_eq]
 exact ⟨fun h => ⟨h.1, h.2.1, h.2.2⟩, fun h => ⟨h.n, h.g, h.p⟩⟩
def roadbooklaw20_CallsTell.f (_ : Nat) (N : List S48) (G P : List Int) (_ : Int) (_ : Bool) (_ _ _ _ _ : Int) (_ : List (List S76)) (_ : List Int) : Option Bool := if limC N G P = true then some true else none
theorem roadbooklaw20_CallsTell.calls (k : Nat) (A0_0 : Option Addr) (c0_0 : Nat) (l0_0 : List (S48)) (A0_1 : Option Addr) (c0_1 : Nat) (l0_1 : List Int) (A0_2 : Option Addr) (c0_2 : Nat) (l0_2 : List Int) (a1_0 : Int) (a1_1 : Bool) (a1_2 a1_3 a1_4 a1_5 a1_6 : Int) (A2 : Option Addr) (c2 : Nat) (l2 : List (List S76)) (A3 : Option Addr) (c3 : Nat) (l3 : List Int) (r : Bool) (w : World) (hr0_0 : Kd.C k48 w A0_0 l0_0.length l0_0) (hc0_0 : l0_0.length ≤ c0_0) (hr0_1 : Kd.C (Kd.int .i64) w A0_1 l0_1.length l0_1) (hc0_1 : l0_1.length ≤ c0_1) (hr0_2 : Kd.C (Kd.int .i64) w A0_2 l0_2.length l0_2) (hc0_2 : l0_2.length ≤ c0_2) (hr2 : Kd.C (Kd.slice 76 k76) w A2 l2.length l2) (hc2 : l2.length ≤ c2) (hr3 : Kd.C (Kd.int .i64) w A3 l3.length l3) (hc3 : l3.length ≤ c3) (hrt : r = true) (h : roadbooklaw20_CallsTell.f k l0_0 l0_1 l0_2 a1_0 a1_1 a1_2 a1_3 a1_4 a1_5 a1_6 l2 l3 = some r) :
  Calls Try.prog 21 #[.agg #[.slice A0_0 l0_0.length c0_0, .slice A0_1 l0_1.length c0_1, .slice A0_2 l0_2.length c0_2], .agg #[.int .i64 a1_0, .bool a1_1, .int .i64 a1_2, .int .i64 a1_3, .int .i64 a1_4, .int .i64 a1_5, .int .i64 a1_6], .slice A2 l2.length c2, .slice A3 l3.length c3] w fun e w' => e = .returned (.bool r) ∧ Below w.heap.size w w' := by
 subst hrt
 unfold roadbooklaw20_CallsTell.f at h
 by_cases hl : limC l0_0 l0_1 l0_2 = true
 ·exact ctell_true ⟨hr0_0, hc0_0, hr0_1, hc0_1, hr0_2, hc0_2⟩ ⟨hr2, hc2⟩ ⟨hr3, hc3⟩ ⟨a1_0, ⟨a1_1, a1_2, a1_3, a1_4⟩, a1_5, a1_6⟩ (limC_iff.1 hl)
 ·rw [if_neg hl] at h; cases h
end Go.Proofs.Ytkidnomkfdnciaa.All
