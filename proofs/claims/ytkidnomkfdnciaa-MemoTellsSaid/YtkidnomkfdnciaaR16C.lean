/- The document's functions on memos: contracts (May, Look). -/
import Derived.Test.YtkidnomkfdnciaaR16B
import Derived.Test.YtkidnomkfdnciaaMemo3
namespace Go.Proofs.Ytkidnomkfdnciaa.All
open Go.RowKit Go.Proofs.YtkidnomkfdnciaaW.PrintWords Go.Proofs.YtkidnomkfdnciaaW.PrintLast Go.Proofs.YtkidnomkfdnciaaW.PrintMore
attribute [local go_sem] QR.Oq QR.Yq QR.Cls
set_option linter.unusedVariables false
set_option linter.unusedSimpArgs false
section
variable {w : World} {AN AG AP : Option Addr} {cN cG cP : Nat} {N : List S48} {G P : List Int}
/-! ### May -/
set_option maxHeartbeats 8000000 in
set_option maxRecDepth 100000 in
theorem rmay_no (h : MemoAt w AN cN N AG cG G AP cP P) (hno : mayB P = false ∨ mayB P = true ∧ (G.length ≠ N.length ∨ G.length = N.length ∧ 400 < N.length)) : Calls Try.prog 52 #[.agg #[.slice AN N.length cN, .slice AG G.length cG, .slice AP P.length cP]] w fun e w' => e = .returned (.bool false) ∧ Below w.heap.size w w' := by
  have hb := below_alloc (Below.refl w.heap.size w) (.cells #[.slice AN N.length cN, .slice AG G.length cG, .slice AP P.length cP] 38)
  have HB := Aside0.mk hb
  have HX := Aside0.mk (box_new w AN cN N AG cG G AP cP P)
  have HM := Aside0.mk (may15_at (h.below hb).p (h.below hb).pc)
  have hm1 := h.n.2.1
  have hm2 := h.g.2.1
  clear h hb
  obtain ⟨vm, hvm⟩ : ∃ v, v = mayB P := ⟨_, rfl⟩
  rw [← hvm] at HM hno
  clear hvm
  rcases hno with rfl | ⟨rfl, h1 | ⟨h1, h2⟩⟩
  · go_enter Try.func52, Try.ntmps52
    go_wp2_with (go_at_call 31; refine HM.out.mono ?_; rintro e w1 ⟨rfl, hd⟩; have HB1 := Aside0.mk hd.below; clear hd)
    go_ret
    exact ⟨rfl, below_then HB.out HB.out.size HB1.out⟩
  · have e1 : ((G.length : Int) != (N.length : Int)) = true := by rw [bne_iff_ne]; omega
    go_enter Try.func52, Try.ntmps52
    go_wp2_with (go_at_call 31; refine HM.out.mono ?_; rintro e w1 ⟨rfl, hd⟩; have HB1 := Aside0.mk hd.below; obtain ⟨ha0, ha1, ha2⟩ := (HX.out.below hd.below).cells; clear hd)
    go_ret
    exact ⟨rfl, below_then HB.out HB.out.size HB1.out⟩
  · have e1 : ((G.length : Int) != (N.length : Int)) = false := by rw [bne_eq_false_iff_eq]; omega
    clear h1
    go_enter Try.func52, Try.ntmps52
    go_wp2_with (go_at_call 31; refine HM.out.mono ?_; rintro e w1 ⟨rfl, hd⟩; have HB1 := Aside0.mk hd.below; obtain ⟨ha0, ha1, ha2⟩ := (HX.out.below hd.below).cells; clear hd)
    go_ret
    exact ⟨rfl, below_then HB.out HB.out.size HB1.out⟩
theorem may_open (hf : formB N G P = true) : mayMB N G P = decide ((openS N G P).1 < 0) := by
  unfold mayMB openS
  rw [hf, Bool.true_and]
  cases hc : confS N G P with
  | none => rfl
  | some p =>
    obtain ⟨x, y⟩ := p
    have := inB_iff.1 (conf_some hf hc).1
    symm
    show decide (x < 0) = false
    exact decide_eq_false (by omega)
theorem may_not (k : Nat) (hk : k < N.length) (hl : G.length = N.length) (h : nodeB P (N.getD k z48) = false ∨ inB P (G.getD k 0) = false) : mayMB N G P = false := by
  cases hm : mayMB N G P with
  | false => rfl
  | true =>
    have hf := may_form hm
    rcases h with h | h
    · rw [form_N hf hk] at h; cases h
    · rw [form_G hf hk] at h; cases h
set_option maxHeartbeats 16000000 in
set_option maxRecDepth 100000 in
theorem rmay_yes (h : MemoAt w AN cN N AG cG G AP cP P) (h1 : mayB P = true) (h2 : G.length = N.length) (h3 : N.length ≤ 400) : Calls Try.prog 52 #[.agg #[.slice AN N.length cN, .slice AG G.length cG, .slice AP P.length cP]] w fun e w' => e = .returned (.bool (mayMB N G P)) ∧ Below w.heap.size w w' := by
  have hb := below_alloc (Below.refl w.heap.size w) (.cells #[.slice AN N.length cN, .slice AG G.length cG, .slice AP P.length cP] 38)
  have HB := Aside0.mk hb
  have HX := Aside0.mk (box_new w AN cN N AG cG G AP cP P)
  have HM := Aside0.mk (may15_at (h.below hb).p (h.below hb).pc)
  have HH := Aside0.mk (h.below hb)
  have HN := Aside0.mk (fun (W : World) (x : S48) (h : MemoAt W AN cN N AG cG G AP cP P) => rnode_at x h)
  have HO := Aside0.mk (fun (W : World) (h : MemoAt W AN cN N AG cG G AP cP P) (hf : formB N G P = true) => ropen_at h hf)
  rw [h1] at HM
  have H1 := Aside0.mk h1
  have H2 := Aside0.mk h2
  have e1 : ((G.length : Int) != (N.length : Int)) = false := by rw [bne_eq_false_iff_eq]; omega
  obtain ⟨v, hv⟩ : ∃ v, v = mayMB N G P := ⟨_, rfl⟩
  rw [← hv]
  have HV := Aside0.mk hv
  clear h hb h1 h2 hv
  go_enter Try.func52, Try.ntmps52
  go_wp2_with (go_at_call 31; refine HM.out.mono ?_; rintro e w1 ⟨rfl, hd⟩; have HB1 := Aside0.mk hd.below; obtain ⟨ha0, ha1, ha2⟩ := (HX.out.below hd.below).cells; clear hd)
  go_loopw [4] (fun i wr => ∃ k : Nat, k ≤ N.length ∧ i = .int .i64 k ∧ Aside0 (∀ q, q < k → nodeB P (N.getD q z48) = true ∧ inB P (G.getD q 0) = true) ∧ Aside0 (Below (w.alloc (.cells #[.slice AN N.length cN, .slice AG G.length cG, .slice AP P.length cP] 38)).heap.size (w.alloc (.cells #[.slice AN N.length cN, .slice AG G.length cG, .slice AP P.length cP] 38)) wr)) (fun i _ => N.length - (intOf i).toNat)
  case atStart => exact ⟨0, Nat.zero_le _, rfl, ⟨fun q hq => absurd hq (Nat.not_lt_zero _)⟩, HB1⟩
  case round =>
    clear ha0 ha1 ha2
    obtain ⟨k, hk, rfl, HQ, HL⟩ := hrel
    obtain ⟨hc0, hc1, hc2⟩ := (HX.out.below HL.out).cells
    by_cases hlt : k < N.length
    · obtain ⟨ad, eA, hd0, hd1, hd2, hd3⟩ := at_T48 (HH.out.below HL.out).n (k : Int) (by omega) (by omega)
      subst eA
      obtain ⟨x, hx⟩ : ∃ x, x = N.getD k z48 := ⟨_, rfl⟩
      rw [Int.toNat_natCast, show rd_T48 N (k : Int) = x from by rw [hx]; simp [rd_T48]] at hd0 hd1 hd2 hd3
      obtain ⟨nb, hnb⟩ : ∃ b, b = nodeB P x := ⟨_, rfl⟩
      have HNB := Aside0.mk (show nodeB P (N.getD k z48) = nb by rw [← hx, hnb])
      have cN' := fun d os => QR.bel (HN.out (Go.Sort.grow (redrawn wr d) os) x ((HH.out.below HL.out).below (below_regrown wr d os)))
      rw [← hnb] at cN'
      clear hnb hx
      go_wp2
      have p0 := fun d os => cell_regrown hc0 d os
      have p1 := fun d os => cell_regrown hc1 d os
      have p2 := fun d os => cell_regrown hc2 d os
      have q0 := fun d os => cell_regrown hd0 d os
      have q1 := fun d os => cell_regrown hd1 d os
      have q2 := fun d os => cell_regrown hd2 d os
      have q3 := fun d os => cell_regrown hd3 d os
      refine QR.region_all (by first | assumption | kernel_rfl) (by kernel_rfl) ?_
      repeat (refine QR.txt_step (fun K hK => ?_); have HK := Aside0.mk hK; clear hK; go_simp; first | (refine HK.out _ ?_; clear HK K) | (apply Exists.intro; refine ⟨fun _ => ?_, HK.out _ ?_⟩; (with_reducible exact cN' _ _); clear HK K))
      refine QR.txt_nil ?_
      intro w2 hw2
      have HW := Aside0.mk (HL.out.trans (hw2.below.mono HL.out.size))
      clear p0 p1 p2 q0 q1 q2 q3 cN' hw2 hc0 hc1 hc2 hd0 hd1 hd2 hd3
      go_wp2
      obtain ⟨aG, eG, hg⟩ := Kd.at_int (HH.out.below HW.out).g (k : Int) (by omega) (by have := H2.out; omega)
      subst eG
      obtain ⟨gk, hgk⟩ : ∃ x, x = rd G (k : Int) := ⟨_, rfl⟩
      rw [← hgk, Int.toNat_natCast] at hg
      have HGK := Aside0.mk (show G.getD k 0 = gk by rw [hgk, rd, Int.toNat_natCast])
      obtain ⟨hc0, hc1, hc2⟩ := (HX.out.below HW.out).cells
      have l0 : (0 : Int) ≤ (k : Int) := by omega
      have l1 : (k : Int) < G.length := by have := H2.out; omega
      have p1 := fun d os => cell_regrown hc1 d os
      have p2 := fun d os => cell_regrown hc2 d os
      have q0 := fun d os => cell_regrown hg d os
      clear hgk hc0 hc1 hc2 hg
      cases nb with
      | false =>
        have HVF := Aside0.mk (HV.out.trans (may_not k hlt H2.out (.inl HNB.out)))
        refine QR.region_all (by first | assumption | kernel_rfl) (by kernel_rfl) ?_
        repeat (refine QR.txt_step (fun K hK => ?_); have HK := Aside0.mk hK; clear hK; go_simp; first | (refine HK.out _ ?_; clear HK K) | (apply Exists.intro; refine ⟨fun _ => ?_, HK.out _ ?_⟩; (fail); clear HK K))
        refine QR.txt_nil ?_
        intro w3 hw3
        have HW3 := Aside0.mk (HW.out.trans (hw3.below.mono HW.out.size))
        clear hw3
        go_wp2
        go_ret
        exact ⟨by rw [HVF.out]; rfl, below_then HB.out HB.out.size HW3.out⟩
      | true =>
        by_cases g0 : gk < 0
        · have HVF := Aside0.mk (HV.out.trans (may_not k hlt H2.out (.inr (by rw [HGK.out]; unfold inB; rw [decide_eq_false (by omega)]; rfl))))
          have e2 : decide (gk < 0) = true := decide_eq_true g0
          refine QR.region_all (by first | assumption | kernel_rfl) (by kernel_rfl) ?_
          repeat (refine QR.txt_step (fun K hK => ?_); have HK := Aside0.mk hK; clear hK; go_simp; first | (refine HK.out _ ?_; clear HK K) | (apply Exists.intro; refine ⟨fun _ => ?_, HK.out _ ?_⟩; (fail); clear HK K))
          refine QR.txt_nil ?_
          intro w3 hw3
          have HW3 := Aside0.mk (HW.out.trans (hw3.below.mono HW.out.size))
          clear hw3
          go_wp2
          go_ret
          exact ⟨by rw [HVF.out]; rfl, below_then HB.out HB.out.size HW3.out⟩
        · by_cases g1 : gk < (P.length : Int)
          · have HQN := Aside0.mk (show ∀ q, q < k + 1 → nodeB P (N.getD q z48) = true ∧ inB P (G.getD q 0) = true from fun q hq => by
              by_cases e : q < k
              · exact HQ.out q e
              · obtain rfl : q = k := by omega
                exact ⟨HNB.out, by rw [HGK.out]; exact inB_iff.2 ⟨by omega, g1⟩⟩)
            have e2 : decide (gk < 0) = false := decide_eq_false g0
            have e3 : decide ((P.length : Int) ≤ gk) = false := decide_eq_false (by omega)
            have g2 : ¬ (P.length : Int) ≤ gk := by omega
            refine QR.region_all (by first | assumption | kernel_rfl) (by kernel_rfl) ?_
            repeat (refine QR.txt_step (fun K hK => ?_); have HK := Aside0.mk hK; clear hK; go_simp; first | (refine HK.out _ ?_; clear HK K) | (apply Exists.intro; refine ⟨fun _ => ?_, HK.out _ ?_⟩; (fail); clear HK K))
            refine QR.txt_nil ?_
            intro w3 hw3
            have HW3 := Aside0.mk (HW.out.trans (hw3.below.mono HW.out.size))
            clear hw3
            go_wp2
            go_roundw
            case rel => exact ⟨k + 1, by omega, by go_num, HQN, HW3⟩
            case measure => simp [intOf]; omega
          · have HVF := Aside0.mk (HV.out.trans (may_not k hlt H2.out (.inr (by rw [HGK.out]; unfold inB; rw [decide_eq_false g1, Bool.and_false]))))
            have e2 : decide (gk < 0) = false := decide_eq_false g0
            have e3 : decide ((P.length : Int) ≤ gk) = true := decide_eq_true (by omega)
            have g2 : (P.length : Int) ≤ gk := by omega
            refine QR.region_all (by first | assumption | kernel_rfl) (by kernel_rfl) ?_
            repeat (refine QR.txt_step (fun K hK => ?_); have HK := Aside0.mk hK; clear hK; go_simp; first | (refine HK.out _ ?_; clear HK K) | (apply Exists.intro; refine ⟨fun _ => ?_, HK.out _ ?_⟩; (fail); clear HK K))
            refine QR.txt_nil ?_
            intro w3 hw3
            have HW3 := Aside0.mk (HW.out.trans (hw3.below.mono HW.out.size))
            clear hw3
            go_wp2
            go_ret
            exact ⟨by rw [HVF.out]; rfl, below_then HB.out HB.out.size HW3.out⟩
    · obtain rfl : k = N.length := by omega
      have hf : formB N G P = true := form_of H1.out H2.out h3 (fun i hi => (HQ.out i (by have := H2.out; omega)).2) (fun i hi => (HQ.out i hi).1)
      have HOC := Aside0.mk (HO.out _ (HH.out.below HL.out) hf)
      obtain ⟨o, ho⟩ : ∃ o, o = openS N G P := ⟨_, rfl⟩
      rw [← ho] at HOC
      have HVO := Aside0.mk (show v = decide (o.1 < 0) by rw [HV.out, may_open hf, ho])
      clear hf ho
      go_wp2_with (go_at_call 82; refine HOC.out.mono ?_; rintro e w2 ⟨rfl, hb2⟩; have HB2 := Aside0.mk (HL.out.trans (hb2.mono HL.out.size)); clear hb2)
      go_ret
      exact ⟨by rw [HVO.out]; rfl, below_then HB.out HB.out.size HB2.out⟩
theorem rmay_at (h : MemoAt w AN cN N AG cG G AP cP P) : Calls Try.prog 52 #[.agg #[.slice AN N.length cN, .slice AG G.length cG, .slice AP P.length cP]] w fun e w' => e = .returned (.bool (mayMB N G P)) ∧ Below w.heap.size w w' := by
  have no : (mayB P = false ∨ mayB P = true ∧ (G.length ≠ N.length ∨ G.length = N.length ∧ 400 < N.length)) → mayMB N G P = false := fun hno => by
    cases hm : mayMB N G P with
    | false => rfl
    | true =>
      rcases hno with h | ⟨_, h | ⟨_, h⟩⟩
      · rw [may_P hm] at h; cases h
      · exact absurd (may_lenG hm) h
      · have := may_lenN hm; omega
  cases h1 : mayB P with
  | false => rw [no (.inl h1)]; exact rmay_no h (.inl h1)
  | true =>
    by_cases h2 : G.length = N.length
    · by_cases h3 : N.length ≤ 400
      · exact rmay_yes h h1 h2 h3
      · have hn : mayB P = false ∨ mayB P = true ∧ (G.length ≠ N.length ∨ G.length = N.length ∧ 400 < N.length) := .inr ⟨h1, .inr ⟨h2, by omega⟩⟩
        rw [no hn]; exact rmay_no h hn
    · have hn : mayB P = false ∨ mayB P = true ∧ (G.length ≠ N.length ∨ G.length = N.length ∧ 400 < N.length) := .inr ⟨h1, .inl h2⟩
      rw [no hn]; exact rmay_no h hn
/-! ### Look -/
set_option maxHeartbeats 8000000 in
set_option maxRecDepth 100000 in
theorem rlook_no (n : S48) (h : MemoAt w AN cN N AG cG G AP cP P) (hno : mayMB N G P = false ∨ mayMB N G P = true ∧ nodeB P n = false) : Calls Try.prog 51 #[.agg #[.slice AN N.length cN, .slice AG G.length cG, .slice AP P.length cP], .agg #[.bool n.f0, .int .i64 n.f1, .int .i64 n.f2, .int .i64 n.f3]] w fun e w' => e = .returned (.tuple #[.int .i64 (-1), .bool false]) ∧ Below w.heap.size w w' := by
  obtain ⟨hx, hy, hb⟩ := box2_new w AN cN N AG cG G AP cP P n
  have HB := Aside0.mk hb
  have HX := Aside0.mk hx
  have HY := Aside0.mk (show NBox _ _ n from hy)
  have HM := Aside0.mk (rmay_at (h.below hb))
  have HN := Aside0.mk (fun (W : World) (h : MemoAt W AN cN N AG cG G AP cP P) => rnode_at n h)
  have HH := Aside0.mk (h.below hb)
  clear h hb hx hy
  rcases hno with h1 | ⟨h1, h2⟩
  all_goals
    rw [h1] at HM
    try rw [h2] at HN
    obtain ⟨vn, hvn⟩ : ∃ v, v = nodeB P n := ⟨_, rfl⟩
    try rw [← hvn] at HN
    clear hvn h1
    try clear h2
    go_enter Try.func51, Try.ntmps51
    go_wp2_with (first | (go_at_call 52; refine HM.out.mono ?_; rintro e w1 ⟨rfl, hb1⟩; have HB1 := Aside0.mk hb1; obtain ⟨ha0, ha1, ha2⟩ := (HX.out.below hb1).cells; obtain ⟨hy0, hy1, hy2, hy3⟩ := (HY.out.below hb1).cells; clear hb1) | (go_at_call 81; refine (HN.out _ (HH.out.below HB1.out)).mono ?_; rintro e w2 ⟨rfl, hb2⟩; have HB2 := Aside0.mk (HB1.out.trans (hb2.mono HB1.out.size)); clear hb2))
    go_ret2
    exact ⟨rfl, below_then HB.out HB.out.size HB2.out⟩
set_option maxHeartbeats 16000000 in
set_option maxRecDepth 100000 in
theorem rlook_yes (n : S48) (h : MemoAt w AN cN N AG cG G AP cP P) (h1 : mayMB N G P = true) (h2 : nodeB P n = true) : Calls Try.prog 51 #[.agg #[.slice AN N.length cN, .slice AG G.length cG, .slice AP P.length cP], .agg #[.bool n.f0, .int .i64 n.f1, .int .i64 n.f2, .int .i64 n.f3]] w fun e w' => e = .returned (.tuple #[.int .i64 (lookS N G P n).1, .bool (lookS N G P n).2]) ∧ Below w.heap.size w w' := by
  obtain ⟨hx, hy, hb⟩ := box2_new w AN cN N AG cG G AP cP P n
  have hm := may_P h1
  have hf := may_form h1
  have HB := Aside0.mk hb
  have HX := Aside0.mk hx
  have HY := Aside0.mk (show NBox _ _ n from hy)
  have HM := Aside0.mk (rmay_at (h.below hb))
  have HN := Aside0.mk (fun (W : World) (h : MemoAt W AN cN N AG cG G AP cP P) => rnode_at n h)
  have HH := Aside0.mk (h.below hb)
  rw [h1] at HM
  rw [h2] at HN
  have HGN := Aside0.mk (may_lenG h1)
  have HCc := Aside0.mk (fun (W : World) (h : MemoAt W AN cN N AG cG G AP cP P) => rcanon_at n h)
  have hC : CanonS N G P n = canonS (rootsS P) n := by unfold CanonS; rw [hm, h2]; rfl
  rw [hC] at HCc
  have HPL := Aside0.mk (fun (W : World) (x : S48) (h : MemoAt W AN cN N AG cG G AP cP P) => rplace_at x (canonsS N P) h (fun k hk => by unfold CanonS; rw [hm, form_N hf hk, canons_at N P hk]; rfl))
  have HFI := Aside0.mk (fun (W : World) (g : Int) (h : MemoAt W AN cN N AG cG G AP cP P) => rfind_at g h)
  obtain ⟨c, hc⟩ : ∃ c, c = canonS (rootsS P) n := ⟨_, rfl⟩
  rw [← hc] at HCc
  obtain ⟨⟨r1, r2⟩, hr⟩ : ∃ r, r = lookS N G P n := ⟨_, rfl⟩
  rw [← hr]
  have HR := Aside0.mk (show (r1, r2) = (match posN (canonsS N P) c N.length with
    | none => (-1, false)
    | some i => (findS P (G.getD i 0), true)) by
    rw [hr]; unfold lookS; rw [h1, h2, hc]; rfl)
  obtain ⟨p, hp⟩ : ∃ p, p = placeS (canonsS N P) c N.length := ⟨_, rfl⟩
  have HPC := Aside0.mk (fun (W : World) (h : MemoAt W AN cN N AG cG G AP cP P) => HPL.out W c h)
  rw [← hp] at HPC
  have HP := Aside0.mk hp
  clear h hb hx hy h1 h2 hm hf hC hc hr hp HPL
  go_enter Try.func51, Try.ntmps51
  go_wp2_with (first | (go_at_call 52; refine HM.out.mono ?_; rintro e w1 ⟨rfl, hb1⟩; have HB1 := Aside0.mk hb1; obtain ⟨ha0, ha1, ha2⟩ := (HX.out.below hb1).cells; obtain ⟨hy0, hy1, hy2, hy3⟩ := (HY.out.below hb1).cells; clear hb1) | (go_at_call 81; refine (HN.out _ (HH.out.below HB1.out)).mono ?_; rintro e w2 ⟨rfl, hb2⟩; have HB2 := Aside0.mk (HB1.out.trans (hb2.mono HB1.out.size)); clear hb2))
  clear ha0 ha1 ha2 hy0 hy1 hy2 hy3
  obtain ⟨ha0, ha1, ha2⟩ := (HX.out.below HB2.out).cells
  obtain ⟨hy0, hy1, hy2, hy3⟩ := (HY.out.below HB2.out).cells
  have p0 := fun d os => cell_regrown ha0 d os
  have p1 := fun d os => cell_regrown ha1 d os
  have p2 := fun d os => cell_regrown ha2 d os
  have q0 := fun d os => cell_regrown hy0 d os
  have q1 := fun d os => cell_regrown hy1 d os
  have q2 := fun d os => cell_regrown hy2 d os
  have q3 := fun d os => cell_regrown hy3 d os
  have cC := fun d os => QR.bel (HCc.out (Go.Sort.grow (redrawn w2 d) os) ((HH.out.below HB2.out).below (below_regrown w2 d os)))
  have cP' := fun d os => QR.bel (HPC.out (Go.Sort.grow (redrawn w2 d) os) ((HH.out.below HB2.out).below (below_regrown w2 d os)))
  refine QR.region_all (by first | assumption | kernel_rfl) (by kernel_rfl) ?_
  repeat (refine QR.txt_step (fun K hK => ?_); have HK := Aside0.mk hK; clear hK; go_simp; first | (refine HK.out _ ?_; clear HK K) | (apply Exists.intro; refine ⟨fun _ => ?_, HK.out _ ?_⟩; (first | with_reducible exact cC _ _ | with_reducible exact cP' _ _); clear HK K))
  refine QR.txt_nil ?_
  intro w3 hw3
  have HB3 := Aside0.mk (HB2.out.trans (hw3.below.mono HB2.out.size))
  clear p0 p1 p2 q0 q1 q2 q3 cC cP' hw3 ha0 ha1 ha2 hy0 hy1 hy2 hy3
  cases hpo : posN (canonsS N P) c N.length with
  | none =>
    have hr := HR.out
    rw [hpo] at hr
    obtain ⟨e0, e1⟩ := Prod.mk.inj hr
    have hp : p = -1 := by rw [HP.out]; unfold placeS; rw [hpo]
    subst e0; subst e1; subst hp
    clear hr hpo
    go_wp2
    go_ret2
    exact ⟨rfl, below_then HB.out HB.out.size HB3.out⟩
  | some i =>
    have hr := HR.out
    rw [hpo] at hr
    obtain ⟨e0, e1⟩ := Prod.mk.inj hr
    have hp : p = (i : Int) := by rw [HP.out]; unfold placeS; rw [hpo]
    have hi := posN_lt _ _ _ _ hpo
    subst e1; subst hp
    obtain ⟨aG, eG, hg⟩ := Kd.at_int (HH.out.below HB3.out).g (i : Int) (by omega) (by have := HGN.out; omega)
    subst eG
    obtain ⟨gi, hgi⟩ : ∃ x, x = rd G (i : Int) := ⟨_, rfl⟩
    rw [← hgi, Int.toNat_natCast] at hg
    have l0 : (0 : Int) ≤ (i : Int) := by omega
    have l1 : (i : Int) < G.length := by have := HGN.out; omega
    have l2 : ¬ (i : Int) < 0 := by omega
    have HR1 := Aside0.mk (show findS P gi = r1 by rw [e0, hgi, rd, Int.toNat_natCast])
    clear hr hpo e0 hgi
    go_wp2
    obtain ⟨ha0, ha1, ha2⟩ := (HX.out.below HB3.out).cells
    have p0 := fun d os => cell_regrown ha0 d os
    have p1 := fun d os => cell_regrown ha1 d os
    have p2 := fun d os => cell_regrown ha2 d os
    have q0 := fun d os => cell_regrown hg d os
    have cF := fun d os => QR.bel (HFI.out (Go.Sort.grow (redrawn w3 d) os) gi ((HH.out.below HB3.out).below (below_regrown w3 d os)))
    rw [HR1.out] at cF
    refine QR.region_all (by first | assumption | kernel_rfl) (by kernel_rfl) ?_
    repeat (refine QR.txt_step (fun K hK => ?_); have HK := Aside0.mk hK; clear hK; go_simp; first | (refine HK.out _ ?_; clear HK K) | (apply Exists.intro; refine ⟨fun _ => ?_, HK.out _ ?_⟩; (with_reducible exact cF _ _); clear HK K))
    refine QR.txt_nil ?_
    intro w4 hw4
    have HB4 := Aside0.mk (HB3.out.trans (hw4.below.mono HB3.out.size))
    clear p0 p1 p2 q0 cF hw4
    go_wp2
    go_ret2
    exact ⟨rfl, below_then HB.out HB.out.size HB4.out⟩
theorem rlook_at (n : S48) (h : MemoAt w AN cN N AG cG G AP cP P) : Calls Try.prog 51 #[.agg #[.slice AN N.length cN, .slice AG G.length cG, .slice AP P.length cP], .agg #[.bool n.f0, .int .i64 n.f1, .int .i64 n.f2, .int .i64 n.f3]] w fun e w' => e = .returned (.tuple #[.int .i64 (lookS N G P n).1, .bool (lookS N G P n).2]) ∧ Below w.heap.size w w' := by
  cases h1 : mayMB N G P with
  | false =>
    have : lookS N G P n = (-1, false) := by unfold lookS; rw [h1]; rfl
    rw [this]
    exact rlook_no n h (.inl h1)
  | true =>
    cases h2 : nodeB P n with
    | false =>
      have : lookS N G P n = (-1, false) := by unfold lookS; rw [h1, h2]; rfl
      rw [this]
      exact rlook_no n h (.inr ⟨h1, h2⟩)
    | true => exact rlook_yes n h h1 h2
end
end Go.Proofs.Ytkidnomkfdnciaa.All
