/- The document's functions on memos: contracts (Of). -/
import Derived.Test.YtkidnomkfdnciaaR16F
namespace Go.Proofs.Ytkidnomkfdnciaa.All
open Go.RowKit Go.Proofs.YtkidnomkfdnciaaW.PrintWords Go.Proofs.YtkidnomkfdnciaaW.PrintLast Go.Proofs.YtkidnomkfdnciaaW.PrintMore
attribute [local go_sem] QR.Oq QR.Yq QR.Cls
set_option linter.unusedVariables false
set_option linter.unusedSimpArgs false
section
variable {w : World} {AN AG AP : Option Addr} {cN cG cP : Nat} {N : List S48} {G P : List Int}
/-! ### Of -/
set_option maxHeartbeats 16000000 in
set_option maxRecDepth 100000 in
theorem rof_no (g : Int) (h : MemoAt w AN cN N AG cG G AP cP P) (hno : mayMB N G P = false ∨ mayMB N G P = true ∧ findS P g = -1) : Calls Try.prog 55 #[.agg #[.slice AN N.length cN, .slice AG G.length cG, .slice AP P.length cP], .int .i64 g] w fun e w' => e = .returned (.slice none 0 0) ∧ Below w.heap.size w w' := by
  have hb := below_alloc (Below.refl w.heap.size w) (.cells #[.slice AN N.length cN, .slice AG G.length cG, .slice AP P.length cP] 38)
  have HB := Aside0.mk hb
  have HX := Aside0.mk (box_new w AN cN N AG cG G AP cP P)
  have HM := Aside0.mk (rmay_at (h.below hb))
  have HF := Aside0.mk (fun (W : World) (h : MemoAt W AN cN N AG cG G AP cP P) => rfind_at g h)
  have HH := Aside0.mk (h.below hb)
  have hmax := h.n.2.1
  obtain ⟨fg, hfg⟩ : ∃ x, x = findS P g := ⟨_, rfl⟩
  rw [← hfg] at HF hno
  clear h hb hfg
  have hcase : (∃ m, m = mayMB N G P ∧ (m = false ∨ m = true ∧ fg = -1)) := ⟨_, rfl, hno⟩
  obtain ⟨m, hm, hno⟩ := hcase
  rw [← hm] at HM
  clear hm
  rcases hno with rfl | ⟨rfl, rfl⟩
  all_goals
    go_enter Try.func55, Try.ntmps55
    go_wp2_with (first | (go_at_call 53; refine (HF.out _ (HH.out.below HB1.out)).mono ?_; rintro e w2 ⟨rfl, hb2⟩; have HB2 := Aside0.mk (HB1.out.trans (hb2.mono HB1.out.size)); clear hb2; obtain ⟨hc0, hc1, hc2⟩ := (HX.out.below HB2.out).cells) | (go_at_call 52; refine HM.out.mono ?_; rintro e w1 ⟨rfl, hb1⟩; have HB1 := Aside0.mk hb1; obtain ⟨ha0, ha1, ha2⟩ := (HX.out.below hb1).cells; clear hb1))
    go_loopw [5, 8] (fun v i wr => v = .slice none 0 0 ∧ i = .int .i64 0 ∧ Aside0 (wr = w2)) (fun _ _ _ => 0)
    case atStart => exact ⟨rfl, rfl, ⟨rfl⟩⟩
    case round =>
      obtain ⟨rfl, rfl, HL⟩ := hrel
      rw [HL.out]
      by_cases h0 : (0 : Int) < N.length
      · go_wp2
        go_ret
        exact ⟨rfl, below_then HB.out HB.out.size HB2.out⟩
      · go_wp2
        go_ret
        exact ⟨rfl, below_then HB.out HB.out.size HB2.out⟩
set_option maxHeartbeats 32000000 in
set_option maxRecDepth 100000 in
theorem rof_yes (g : Int) (h : MemoAt w AN cN N AG cG G AP cP P) (h1 : mayMB N G P = true) (h2 : findS P g ≠ -1) : Calls Try.prog 55 #[.agg #[.slice AN N.length cN, .slice AG G.length cG, .slice AP P.length cP], .int .i64 g] w fun e w' => ∃ A c, e = .returned (.slice A (ofL N G P g N.length).length c) ∧ (ofL N G P g N.length).length ≤ c ∧ Kd.C (Kd.int .i64) w' A (ofL N G P g N.length).length (ofL N G P g N.length) ∧ Below w.heap.size w w' := by
  have hb := below_alloc (Below.refl w.heap.size w) (.cells #[.slice AN N.length cN, .slice AG G.length cG, .slice AP P.length cP] 38)
  have HB := Aside0.mk hb
  have HX := Aside0.mk (box_new w AN cN N AG cG G AP cP P)
  have HM := Aside0.mk (rmay_at (h.below hb))
  rw [h1] at HM
  have HF := Aside0.mk (fun (W : World) (x : Int) (h : MemoAt W AN cN N AG cG G AP cP P) => rfind_at x h)
  have HC := Aside0.mk (fun (W : World) (x : S48) (h : MemoAt W AN cN N AG cG G AP cP P) => rcanon_at x h)
  have HH := Aside0.mk (h.below hb)
  have hmax := h.n.2.1
  have HGN := Aside0.mk (may_lenG h1)
  have HLN := Aside0.mk (may_lenN h1)
  have hCS : ∀ k (hk : k < N.length), CanonS N G P (N.getD k z48) = (canonsS N P).getD k z48 := fun k hk => by
    unfold CanonS
    rw [may_P h1, form_N (may_form h1) hk, canons_at N P hk]; rfl
  have HCS := Aside0.mk hCS
  obtain ⟨cs, hcs⟩ : ∃ cs, cs = canonsS N P := ⟨_, rfl⟩
  have HPL := Aside0.mk (fun (W : World) (x : S48) (h : MemoAt W AN cN N AG cG G AP cP P) => rplace_at x (canonsS N P) h hCS)
  rw [← hcs] at HCS HPL
  have HCE := Aside0.mk hcs
  have HFg := Aside0.mk (fun (W : World) (h : MemoAt W AN cN N AG cG G AP cP P) => rfind_at g h)
  have hf0 : 0 ≤ findS P g := by rcases find_neg (P := P) g with h | h; exact absurd h h2; exact h
  obtain ⟨fg, hfg⟩ : ∃ x, x = findS P g := ⟨_, rfl⟩
  rw [← hfg] at HFg hf0
  have HFG := Aside0.mk hfg
  have l0 : ¬ fg < 0 := by omega
  clear h hb hfg h1 h2 hcs hCS
  go_enter Try.func55, Try.ntmps55
  go_wp2_with (first | (go_at_call 53; refine (HFg.out _ (HH.out.below HB1.out)).mono ?_; rintro e w2 ⟨rfl, hb2⟩; have HB2 := Aside0.mk (HB1.out.trans (hb2.mono HB1.out.size)); clear hb2; obtain ⟨hc0, hc1, hc2⟩ := (HX.out.below HB2.out).cells) | (go_at_call 52; refine HM.out.mono ?_; rintro e w1 ⟨rfl, hb1⟩; have HB1 := Aside0.mk hb1; obtain ⟨ha0, ha1, ha2⟩ := (HX.out.below hb1).cells; clear hb1))
  clear ha0 ha1 ha2 hc0 hc1 hc2
  go_loopw [5, 8] (fun v i wr => ∃ k : Nat, k ≤ N.length ∧ i = .int .i64 k ∧ Aside0 (Kd.R (Kd.int .i64) 3 wr (w.alloc (.cells #[.slice AN N.length cN, .slice AG G.length cG, .slice AP P.length cP] 38)).heap.size (fun _ => True) v (ofL N G P g k)) ∧ Aside0 (Below (w.alloc (.cells #[.slice AN N.length cN, .slice AG G.length cG, .slice AP P.length cP] 38)).heap.size (w.alloc (.cells #[.slice AN N.length cN, .slice AG G.length cG, .slice AP P.length cP] 38)) wr)) (fun _ i _ => N.length - (intOf i).toNat)
  case atStart => exact ⟨0, Nat.zero_le _, rfl, ⟨Kd.R_nil _ _ _ _ _⟩, HB2⟩
  case round =>
    obtain ⟨k, hk, rfl, HO, HL⟩ := hrel
    obtain ⟨hc0, hc1, hc2⟩ := (HX.out.below HL.out).cells
    by_cases hlt : k < N.length
    · obtain ⟨ad, eA, he0, he1, he2, he3⟩ := at_T48 (HH.out.below HL.out).n (k : Int) (by omega) (by omega)
      subst eA
      obtain ⟨x, hx⟩ : ∃ x, x = N.getD k z48 := ⟨_, rfl⟩
      rw [Int.toNat_natCast, show rd_T48 N (k : Int) = x from by rw [hx]; simp [rd_T48]] at he0 he1 he2 he3
      obtain ⟨c, hc⟩ : ∃ y, y = cs.getD k z48 := ⟨_, rfl⟩
      have HXX := Aside0.mk (show CanonS N G P x = c by rw [hx, hc]; exact HCS.out k hlt)
      obtain ⟨j, hj⟩ := Option.isSome_iff_exists.mp (posN_self cs N.length k hlt)
      rw [← hc] at hj
      obtain ⟨aG, e, hg⟩ := Kd.at_int (HH.out.below HL.out).g (k : Int) (by omega) (by have := HGN.out; omega)
      subst e
      obtain ⟨gk, hgk⟩ : ∃ gk, gk = rd G (k : Int) := ⟨_, rfl⟩
      rw [← hgk, Int.toNat_natCast] at hg
      have hgk2 : G.getD k 0 = gk := by rw [hgk, rd, Int.toNat_natCast]
      obtain ⟨fk, hfk⟩ : ∃ fk, fk = findS P gk := ⟨_, rfl⟩
      have HFK := Aside0.mk hfk
      have HGK := Aside0.mk hgk
      have hof : ofB N G P g k = (decide (fk = fg) && decide (j = k)) := by
        unfold ofB
        rw [hgk2, ← hfk, ← HFG.out, ← HCE.out, ← hc, hj]
        simp
      have hsc := ofL_succ N G P g k
      rw [hof] at hsc
      have HSC := Aside0.mk hsc
      have HPJ := Aside0.mk (show placeS cs c N.length = (j : Int) by unfold placeS; rw [hj])
      have HGC := Aside0.mk hg
      have l1 : (0 : Int) ≤ (k : Int) := by omega
      have l2 : (k : Int) < N.length := by omega
      have l3 : (k : Int) < G.length := by have := HGN.out; omega
      clear hx hc hj hgk hgk2 hfk hof hsc hg
      go_wp2
      have p0 := fun d os => cell_regrown hc0 d os
      have p1 := fun d os => cell_regrown hc1 d os
      have p2 := fun d os => cell_regrown hc2 d os
      have q0 := fun d os => cell_regrown he0 d os
      have q1 := fun d os => cell_regrown he1 d os
      have q2 := fun d os => cell_regrown he2 d os
      have q3 := fun d os => cell_regrown he3 d os
      have cC := fun d os => QR.bel (HC.out (Go.Sort.grow (redrawn wr d) os) x ((HH.out.below HL.out).below (below_regrown wr d os)))
      rw [HXX.out] at cC
      have hu48 := Try.underlying48
      refine QR.region_alloc 8 7 9 _ 48 (.cells #[.bool false, .int .i64 0, .int .i64 0, .int .i64 0] 48) (by first | assumption | kernel_rfl) rfl rfl rfl rfl (by decide) (fun ev w => run_alloc48 ev w _ _ _) (by kernel_rfl) (by kernel_rfl) ?_
      simp only [List.set_cons_succ, List.set_cons_zero, QR.still, List.take_succ_cons, List.take_zero, List.drop_succ_cons, List.drop_zero]
      repeat (refine QR.txt_step (fun K hK => ?_); have HK := Aside0.mk hK; clear hK; go_simp; first | (refine HK.out _ ?_; clear HK K) | (apply Exists.intro; refine ⟨fun _ => ?_, HK.out _ ?_⟩; (with_reducible exact cC _ _); clear HK K))
      refine QR.txt_nil ?_
      intro gb hgb w3 hw3 hg
      have HG0 := Aside0.mk hgb
      have HW3 := Aside0.mk hw3.below
      have HG := Aside0.mk hg
      clear p0 p1 p2 q0 q1 q2 q3 cC hw3 hgb he0 he1 he2 he3 hc0 hc1 hc2
      obtain ⟨he0, he1, he2, he3, hf0, hf1, hf2, hf3⟩ := bk4 hg
      clear hg
      obtain ⟨hc0, hc1, hc2⟩ := (HX.out.below (HL.out.trans (HW3.out.mono HL.out.size))).cells
      have hne : ¬ w.heap.size = gb := by have := (HX.out.below HL.out).lt; have := HG0.out; omega
      have HB0 := Aside0.mk (Nat.le_trans HL.out.size HG0.out)
      go_wp2_with (go_at_call 83; have hb4 : Below wr.heap.size wr ((((w3.setCell ⟨gb, 0, none⟩ (.bool c.f0)).setCell ⟨gb, 1, none⟩ (.int .i64 c.f1)).setCell ⟨gb, 2, none⟩ (.int .i64 c.f2)).setCell ⟨gb, 3, none⟩ (.int .i64 c.f3)) := below_put4 HW3.out HG0.out; generalize ((((w3.setCell ⟨gb, 0, none⟩ (.bool c.f0)).setCell ⟨gb, 1, none⟩ (.int .i64 c.f1)).setCell ⟨gb, 2, none⟩ (.int .i64 c.f2)).setCell ⟨gb, 3, none⟩ (.int .i64 c.f3)) = w4 at hb4 ⊢; have HL4 := Aside0.mk (HL.out.trans (hb4.mono HL.out.size)); have HW4 := Aside0.mk hb4; have hpc := HPL.out _ c (HH.out.below HL4.out); rw [HPJ.out] at hpc; refine hpc.mono ?_; clear hpc; rintro e w5 ⟨rfl, hb5⟩; have HW5 := Aside0.mk (HW4.out.trans (hb5.mono HW4.out.size)); have HL5 := Aside0.mk (HL.out.trans (HW5.out.mono HL.out.size)); clear hb4 hb5)
      clear hc0 hc1 hc2 he0 he1 he2 he3 hf0 hf1 hf2 hf3 hne
      obtain ⟨hc0, hc1, hc2⟩ := (HX.out.below HL5.out).cells
      obtain ⟨aG', e, hg⟩ := Kd.at_int (HH.out.below HL5.out).g (k : Int) (by omega) (by have := HGN.out; omega)
      obtain rfl := Option.some.inj e
      clear e
      rw [Int.toNat_natCast, show rd G (k : Int) = gk from HGK.out.symm] at hg
      have p0 := fun d os => cell_regrown hc0 d os
      have p1 := fun d os => cell_regrown hc1 d os
      have p2 := fun d os => cell_regrown hc2 d os
      have q0 := fun d os => cell_regrown hg d os
      have cF := fun d os => QR.bel (HF.out (Go.Sort.grow (redrawn w5 d) os) gk ((HH.out.below HL5.out).below (below_regrown w5 d os)))
      rw [← HFK.out] at cF
      clear hg hc0 hc1 hc2
      by_cases hf : fk = fg
      · have eb : (fk == fg) = true := by rw [beq_iff_eq]; exact hf
        have HFF := Aside0.mk hf
        clear hf
        by_cases hjk : j = k
        · have eb2 : ((j : Int) == (k : Int)) = true := by rw [beq_iff_eq]; omega
          have HJK := Aside0.mk hjk
          clear hjk
          refine QR.region_all (by first | assumption | kernel_rfl) (by kernel_rfl) ?_
          repeat (refine QR.txt_step (fun K hK => ?_); have HK := Aside0.mk hK; clear hK; go_simp; first | (refine HK.out _ ?_; clear HK K) | (apply Exists.intro; refine ⟨fun _ => ?_, HK.out _ ?_⟩; (with_reducible exact cF _ _); clear HK K))
          refine QR.txt_nil ?_
          intro w6 hw6
          have HO6 := Aside0.mk (Kd.R_below (Kd.R_below HO.out HW5.out) hw6.below)
          have HL6 := Aside0.mk (HL5.out.trans (hw6.below.mono HL5.out.size))
          clear hw6 p0 p1 p2 q0 cF
          go_wp2_with ((with_reducible refine gate_builtin (b := .append) (xs := #[.tmp 54, .tmp 56]) rfl ?_); at_builtin; refine Kd.R_append (Kd.int .i64) (w0 := (w.alloc (.cells #[.slice (some ad) N.length cN, .slice (some aG) G.length cG, .slice AP P.length cP] 38))) (w.alloc (.cells #[.slice (some ad) N.length cN, .slice (some aG) G.length cG, .slice AP P.length cP] 38)).heap.size rfl (.tmp 54) (.tmp 56) 22 3 (.int .i64 0) 8 rfl Try.underlying22 info3 rfl (by decide) (by omega) u5 (ofL N G P g k) (k : Int) [.int .i64 (k : Int)] (fun _ => True) (fun _ => False) rfl rfl ?aP (fun _ hk => hk.elim) (fun _ _ => trivial) HO6.out HL6.out HL6.out.size ?aL ?_; (case aP => exact rfl); (case aL => have := ofL_length N G P g k; have := HLN.out; omega); intro v5 w7 ho hb _ _; have HO7 := Aside0.mk ho; have HL7 := Aside0.mk hb; clear ho hb)
          go_roundw
          case rel =>
            refine ⟨k + 1, by omega, by go_num, ⟨?_⟩, HL7⟩
            rw [HSC.out, if_pos (by rw [HFF.out, HJK.out]; simp)]
            exact HO7.out
          case measure => simp [intOf]; omega
        · have eb2 : ((j : Int) == (k : Int)) = false := by rw [beq_eq_false_iff_ne]; omega
          have HJK := Aside0.mk hjk
          clear hjk
          refine QR.region_all (by first | assumption | kernel_rfl) (by kernel_rfl) ?_
          repeat (refine QR.txt_step (fun K hK => ?_); have HK := Aside0.mk hK; clear hK; go_simp; first | (refine HK.out _ ?_; clear HK K) | (apply Exists.intro; refine ⟨fun _ => ?_, HK.out _ ?_⟩; (with_reducible exact cF _ _); clear HK K))
          refine QR.txt_nil ?_
          intro w6 hw6
          have HO6 := Aside0.mk (Kd.R_below (Kd.R_below HO.out HW5.out) hw6.below)
          have HL6 := Aside0.mk (HL5.out.trans (hw6.below.mono HL5.out.size))
          clear hw6 p0 p1 p2 q0 cF
          go_wp2
          go_roundw
          case rel =>
            refine ⟨k + 1, by omega, by go_num, ⟨?_⟩, HL6⟩
            rw [HSC.out, if_neg (by simp [HJK.out])]
            exact HO6.out
          case measure => simp [intOf]; omega
      · have eb : (fk == fg) = false := by rw [beq_eq_false_iff_ne]; exact hf
        have HFF := Aside0.mk hf
        clear hf
        refine QR.region_all (by first | assumption | kernel_rfl) (by kernel_rfl) ?_
        repeat (refine QR.txt_step (fun K hK => ?_); have HK := Aside0.mk hK; clear hK; go_simp; first | (refine HK.out _ ?_; clear HK K) | (apply Exists.intro; refine ⟨fun _ => ?_, HK.out _ ?_⟩; (with_reducible exact cF _ _); clear HK K))
        refine QR.txt_nil ?_
        intro w6 hw6
        have HO6 := Aside0.mk (Kd.R_below (Kd.R_below HO.out HW5.out) hw6.below)
        have HL6 := Aside0.mk (HL5.out.trans (hw6.below.mono HL5.out.size))
        clear hw6 p0 p1 p2 q0 cF
        go_wp2
        go_roundw
        case rel =>
          refine ⟨k + 1, by omega, by go_num, ⟨?_⟩, HL6⟩
          rw [HSC.out, if_neg (by simp [HFF.out])]
          exact HO6.out
        case measure => simp [intOf]; omega
    · obtain rfl : k = N.length := by omega
      go_wp2
      go_ret
      obtain ⟨A, c, rfl, hl, hC⟩ := Kd.R_reads HO.out
      exact ⟨A, c, rfl, hl, hC, below_then HB.out HB.out.size HL.out⟩
theorem rof_at (g : Int) (h : MemoAt w AN cN N AG cG G AP cP P) : Calls Try.prog 55 #[.agg #[.slice AN N.length cN, .slice AG G.length cG, .slice AP P.length cP], .int .i64 g] w fun e w' => ∃ A c, e = .returned (.slice A (ofS N G P g).length c) ∧ (ofS N G P g).length ≤ c ∧ Kd.C (Kd.int .i64) w' A (ofS N G P g).length (ofS N G P g) ∧ Below w.heap.size w w' := by
  have nil : (mayMB N G P = false ∨ mayMB N G P = true ∧ findS P g = -1) → ofS N G P g = [] := fun h => by
    unfold ofS
    rcases h with h | ⟨h1, h2⟩
    · rw [h]; rfl
    · rw [h1, if_pos rfl, if_pos h2]
  by_cases h1 : mayMB N G P = true
  · by_cases h2 : findS P g = -1
    · rw [nil (.inr ⟨h1, h2⟩)]
      exact (rof_no g h (.inr ⟨h1, h2⟩)).mono fun e w' ⟨he, hb⟩ => ⟨_, _, he, Nat.le_refl _, ⟨rfl, by simp, fun hn => absurd hn (by simp)⟩, hb⟩
    · have : ofS N G P g = ofL N G P g N.length := by unfold ofS; rw [if_pos h1, if_neg h2]
      rw [this]
      exact rof_yes g h h1 h2
  · have h1 : mayMB N G P = false := by simpa using h1
    rw [nil (.inl h1)]
    exact (rof_no g h (.inl h1)).mono fun e w' ⟨he, hb⟩ => ⟨_, _, he, Nat.le_refl _, ⟨rfl, by simp, fun hn => absurd hn (by simp)⟩, hb⟩
end
end Go.Proofs.Ytkidnomkfdnciaa.All
